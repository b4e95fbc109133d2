import Derived.Test.YtbjofkamhijjlaaGreatDoorRows
import Derived.Test.YtbjofkamhijjlaaGreatDoorM1
import Derived.Test.YtbjofkamhijjlaaGreatDoorM2
import Derived.Test.YtbjofkamhijjlaaGreatDoorM3
set_option maxRecDepth 100000
set_option linter.all false
namespace Go.Proofs.YtbjofkamhijjlaaGreatDoor
open Go.Ab
def ir3 : AFn := ⟨134, 2, [.t 4], .seq (.rg [Ibx 2 0, Ibx 3 1, Imb 4 false])
 (.seq (.seq (.rg [Ilb 14 3 2, Ilb 15 2 3, Io 16 (.call 4 [(.t 14), (.t 15)]), Ing 17 16, Im 18 17, Jf 19 18 (.ld 3 true (.t 2)), Jf 20 18 (.ld 2 true (.t 3)), Jf 21 18 (.call 5 [(.t 19), (.t 20)]), Jf 22 18 (.bi .neq .i64 (.t 21) (.k (.int .i64 0))), Ipt 23 18 22])
 (.cond (.t 23) (.seq (.rg [Io 24 (.call 6 []), Im 4 24])
 .ret) .skip))
 (.seq (.rg [Ilb 25 2 3, Io 26 (.call 7 [(.t 25)]), Io 5 (.alloc [.sl .nil 5 [], .sl .nil 4 []]), ⟨none, none, .st 2 (.t 5) (.t 26), []⟩])
 (.seq (.seq (.rg [Imv 6 0])
 (.block 0 (.loop [2, 3, 5, 6] (.seq (.seq (.rg [Im 27 6, If 28 0 5, Il 29 1 28, Iln 30 29, Ilt 31 27 30])
 (.cond (.t 31) .skip (.exit 0)))
 (.seq (.block 1 (.seq (.rg [Imv 7 0])
 (.block 2 (.loop [2, 3, 5, 6, 7] (.seq (.seq (.rg [Im 34 7, If 35 0 5, Il 36 1 35, Im 37 6, Iia 38 5 36 37, If 39 4 38, Il 40 1 39, Iln 41 40, Ilt 42 34 41])
 (.cond (.t 42) .skip (.exit 2)))
 (.seq (.block 3 (.seq (.rg [If 45 0 5, Il 46 1 45, Im 47 6, Iia 48 5 46 47, If 49 4 48, Il 50 1 49, Im 51 7, Iia 52 7 50 51, Ilb 53 7 52, Io 8 (.alloc [.int .i64 0, .str [], .str [], .sl .nil 6 [], .sl .nil 2 [], .str [], .sl .nil 7 []]), ⟨none, none, .st 7 (.t 8) (.t 53), []⟩])
 (.seq (.rg [Ilb 55 2 3, If 56 2 8, Il 57 1 56, Io 58 (.call 8 [(.t 55), (.t 57)]), Im 54 58, Iex 59 54 0, Iex 60 54 1, Io 9 (.alloc [.str [], .str [], .sl .nil 2 [], .sl .nil 7 []]), ⟨none, none, .st 4 (.t 9) (.t 59), []⟩, Im 10 60])
 (.seq (.rg [If 61 0 8, Il 62 1 61, Iei 63 62 1, Im 64 63, Jm 65 64 10, Ipf 66 64 65])
 (.cond (.t 66) (.reg [0, 1, 2, 3, 4, 5, 6, 7, 8, 9, 10, 11, 12, 13, 14, 15, 16] [If 67 0 5, Il 68 1 67, Im 69 6, Iia 70 5 68 69, If 71 4 70, Il 72 1 71, Im 73 7, If 74 1 9, Il 75 1 74, If 76 4 8, Il 77 1 76, If 78 3 9, Il 79 1 78, ⟨some 80, none, .call 9 [(.t 79)], [1, 5, 8, 10]⟩, Io 81 (.bld [.int .i64 0, .str [], .str [], .sl .nil 6 [], .sl .nil 2 [], .str [], .sl .nil 7 []] [(0, 1, (.k (.int .i64 2))), (5, 1, (.t 75)), (4, 1, (.t 77)), (6, 1, (.t 80))]), Iia 82 7 72 73, ⟨none, none, .st 7 (.t 82) (.t 81), []⟩]) .skip)))))
 (.rg [Im 43 7, Iai 44 43 1, Im 7 44])))))))
 (.rg [Im 32 6, Iai 33 32 1, Im 6 33]))))))
 (.seq (.rg [Io 11 (.mv (.k (.sl .nil 4 [])))])
 (.seq (.seq (.rg [Imv 12 0])
 (.block 4 (.loop [2, 5, 11, 12] (.seq (.seq (.rg [Im 83 12, If 84 1 5, Il 85 1 84, Iln 86 85, Ilt 87 83 86])
 (.cond (.t 87) .skip (.exit 4)))
 (.seq (.block 5 (.seq (.rg [Imv 13 0])
 (.block 6 (.loop [2, 5, 11, 12, 13] (.seq (.seq (.rg [Im 90 13, If 91 0 5, Il 92 1 91, Iln 93 92, Ilt 94 90 93])
 (.cond (.t 94) .skip (.exit 6)))
 (.seq (.block 7 (.seq (.reg [0, 1, 2, 3, 4, 5, 6, 8, 9, 10, 11, 12, 13, 7, 14] [Ilb 97 2 5, If 98 0 5, Il 99 1 98, Im 100 13, Iia 101 5 99 100, If 102 4 101, Il 103 1 102, If 105 1 5, Il 106 1 105, Im 107 12, Iia 108 4 106 107, If 109 0 108, Il 110 1 109, ⟨some 104, none, .call 11 [(.t 97), (.t 103)], [8, 12]⟩, Io 111 (.call 10 [(.t 104), (.t 110)])])
 (.cond (.t 111) (.seq (.rg [Im 112 11, If 113 1 5, Il 114 1 113, Im 115 12, Iia 116 4 114 115, Ilb 117 4 116, Io 118 (.bls 4 1 [.str [], .str [], .sl .nil 2 [], .sl .nil 7 []] [(0, (.t 117))]), Iap 119 4 80 112 118, Im 11 119])
 (.exit 6)) .skip)))
 (.rg [Im 95 13, Iai 96 95 1, Im 13 96])))))))
 (.rg [Im 88 12, Iai 89 88 1, Im 12 89]))))))
 (.seq (.rg [Im 120 11, If 121 1 5, ⟨none, none, .st 1 (.t 121) (.t 120), []⟩])
 (.seq (.rg [Ilb 122 3 2, Ilb 123 2 5, Io 124 (.call 5 [(.t 122), (.t 123)]), Iei 125 124 0, Im 126 125, Jf 127 126 (.ld 2 true (.t 5)), Jf 128 126 (.call 12 [(.t 127)]), Jf 129 126 (.not (.t 128)), Ipt 130 126 129, Im 131 130, Jt 132 131 (.call 6 []), Ipf 133 131 132, Im 4 133])
 .ret)))))))⟩
theorem ck3:zh Tryz.prog 3 ir3=true:=by kernel_rfl
def ir4 : AFn := ⟨60, 2, [.t 4], .seq (.rg [Ibx 2 0, Ibx 3 1, Imb 4 false])
 (.seq (.seq (.rg [Ilb 8 3 2, Io 9 (.call 13 [(.t 8)]), Ing 10 9, Im 11 10, Jf 12 11 (.ld 2 true (.t 3)), Jf 13 11 (.call 14 [(.t 12)]), Jf 14 11 (.not (.t 13)), Ipt 15 11 14])
 (.cond (.t 15) (.seq (.rg [Imb 4 false])
 .ret) .skip))
 (.seq (.rg [Imv 5 0])
 (.seq (.seq (.rg [Imv 6 0])
 (.block 0 (.loop [3, 5, 6] (.seq (.seq (.rg [Im 16 6, If 17 0 3, Il 18 1 17, Iln 19 18, Ilt 20 16 19, Im 21 20, Jm 22 21 5, Jt 23 21 (.bi .leq .i64 (.t 22) (.k (.int .i64 40))), Ipf 24 21 23])
 (.cond (.t 24) .skip (.exit 0)))
 (.seq (.block 1 (.reg [0, 1, 2, 3, 4, 5, 6, 7, 8, 9, 10] [Im 27 5, Ilb 28 2 3, If 29 0 3, Il 30 1 29, Im 31 6, Iia 32 5 30 31, If 33 4 32, Il 34 1 33, Io 35 (.call 15 [(.t 28), (.t 34), (.k (.int .i64 40))]), Iad 36 27 35, Im 5 36]))
 (.rg [Im 25 6, Iai 26 25 1, Im 6 26]))))))
 (.seq (.seq (.rg [Imv 7 0])
 (.block 2 (.loop [3, 5, 7] (.seq (.seq (.rg [Im 37 7, If 38 1 3, Il 39 1 38, Iln 40 39, Ilt 41 37 40, Im 42 41, Jm 43 42 5, Jt 44 42 (.bi .leq .i64 (.t 43) (.k (.int .i64 40))), Ipf 45 42 44])
 (.cond (.t 45) .skip (.exit 2)))
 (.seq (.block 3 (.reg [0, 1, 2, 3, 4, 5, 6, 7, 8, 9, 10] [Im 48 5, Ilb 49 2 3, If 50 1 3, Il 51 1 50, Im 52 7, Iia 53 4 51 52, If 54 3 53, Il 55 1 54, Io 56 (.call 15 [(.t 49), (.t 55), (.k (.int .i64 40))]), Iad 57 48 56, Im 5 57]))
 (.rg [Im 46 7, Iai 47 46 1, Im 7 47]))))))
 (.seq (.rg [Im 58 5, Io 59 (.bi .leq .i64 (.t 58) (.k (.int .i64 40))), Im 4 59])
 .ret)))))⟩
theorem ck4:zh Tryz.prog 4 ir4=true:=by kernel_rfl
def ir5 : AFn := ⟨26, 2, [.t 4], .seq (.rg [Ibx 2 0, Ibx 3 1, Imv 4 0])
 (.scope (.seq (.seq (.rg [Ilb 7 3 2, Io 8 (.call 16 [(.t 7)]), Io 9 (.bi .neq .i64 (.t 8) (.k (.int .i64 0))), Im 10 9, Jf 11 10 (.ld 2 true (.t 3)), Jf 12 10 (.call 12 [(.t 11)]), Jf 13 10 (.not (.t 12)), Ipt 14 10 13])
 (.cond (.t 14) (.seq (.rg [Imv 4 25])
 .ret) .skip))
 (.seq (.rg [Imv 5 0])
 (.seq .skip
 (.seq (.seq (.rg [Imv 6 1])
 (.block 0 (.loop [2, 3, 5, 6] (.seq (.seq (.rg [Im 15 6, Io 16 (.bi .leq .i64 (.t 15) (.k (.int .i64 24)))])
 (.cond (.t 16) .skip (.exit 0)))
 (.seq (.block 1 (.seq (.rg [Ilb 19 3 2, Ilb 20 2 3, Im 21 6, Io 22 (.call 17 [(.t 19), (.t 20), (.t 21)]), Ing 23 22])
 (.cond (.t 23) (.seq (.rg [Im 24 6, Im 5 24])
 (.exit 0)) .skip)))
 (.rg [Im 17 6, Iai 18 17 1, Im 6 18]))))))
 (.seq (.rg [Im 25 5, Im 4 25])
 .ret))))))⟩
theorem ck5:zh Tryz.prog 5 ir5=true:=by kernel_rfl
def ir6 : AFn := ⟨40, 0, [.t 0], .seq (.rg [Imb 0 false])
 (.seq (.rg [Io 3 (.bld [.int .i64 0, .str [], .str [], .sl .nil 6 [], .sl .nil 2 [], .str [], .sl .nil 7 []] [(2, 1, (.k (.str [110, 111, 116, 104, 101, 114, 101])))]), Io 4 (.bls 7 1 [.int .i64 0, .str [], .str [], .sl .nil 6 [], .sl .nil 2 [], .str [], .sl .nil 7 []] [(0, (.t 3))]), Io 5 (.bld [.int .i64 0, .str [], .sl .nil 10 [], .sl .nil 2 [], .sl .nil 7 []] [(4, 1, (.t 4))]), Io 6 (.bls 5 1 [.int .i64 0, .str [], .sl .nil 10 [], .sl .nil 2 [], .sl .nil 7 []] [(0, (.t 5))]), Io 7 (.bld [.sl .nil 5 [], .sl .nil 4 []] [(0, 1, (.t 6))]), Io 1 (.alloc [.sl .nil 5 [], .sl .nil 4 []]), ⟨none, none, .st 2 (.t 1) (.t 7), []⟩])
 (.seq (.rg [Io 8 (.bld [.int .i64 0, .str [], .str [], .sl .nil 6 [], .sl .nil 2 [], .str [], .sl .nil 7 []] [(2, 1, (.k (.str [97])))]), Io 9 (.bls 7 1 [.int .i64 0, .str [], .str [], .sl .nil 6 [], .sl .nil 2 [], .str [], .sl .nil 7 []] [(0, (.t 8))]), Io 10 (.bld [.int .i64 0, .str [], .sl .nil 10 [], .sl .nil 2 [], .sl .nil 7 []] [(4, 1, (.t 9))]), Io 11 (.bls 5 1 [.int .i64 0, .str [], .sl .nil 10 [], .sl .nil 2 [], .sl .nil 7 []] [(0, (.t 10))]), Io 12 (.bld [.sl .nil 5 [], .sl .nil 4 []] [(0, 1, (.t 11))]), Io 2 (.alloc [.sl .nil 5 [], .sl .nil 4 []]), ⟨none, none, .st 2 (.t 2) (.t 12), []⟩])
 (.seq (.reg [1, 0, 2, 3, 4, 6, 5, 7, 8, 9, 10, 11, 12, 13, 14, 15, 16, 18, 17, 19, 20, 21, 23, 22, 24, 25, 26, 27] [Ilb 14 2 1, ⟨some 13, none, .call 18 [], [0]⟩, Io 15 (.call 5 [(.t 13), (.t 14)]), Iei 16 15 9, Im 17 16, Jt 19 17 (.ld 2 true (.t 2)), ⟨some 18, (some (17, true)), .call 18 [], [5]⟩, Jt 20 17 (.call 5 [(.t 18), (.t 19)]), Jt 21 17 (.bi .eql .i64 (.t 20) (.k (.int .i64 0))), Ipf 22 17 21, Im 23 22, Jt 24 23 (.bld [.sl .nil 6 [], .str [], .str []] []), Jt 25 23 (.ld 2 true (.t 2)), Jt 26 23 (.call 5 [(.t 24), (.t 25)]), Jt 27 23 (.bi .eql .i64 (.t 26) (.k (.int .i64 25))), Ipf 28 23 27, Im 29 28, Jt 31 29 (.ld 2 true (.t 2)), ⟨some 30, (some (29, true)), .call 18 [], [17]⟩, Jt 32 29 (.call 17 [(.t 30), (.t 31), (.k (.int .i64 24))]), Ipf 33 29 32, Im 34 33, Jt 36 34 (.ld 2 true (.t 2)), ⟨some 35, (some (34, true)), .call 18 [], [22]⟩, Jt 37 34 (.call 17 [(.t 35), (.t 36), (.k (.int .i64 25))]), Jt 38 34 (.not (.t 37)), Ipf 39 34 38, Im 0 39])
 .ret)))⟩
theorem ck6:zh Tryz.prog 6 ir6=true:=by kernel_rfl
def ir7 : AFn := ⟨66, 1, [.c 2 2 true], .seq (.rg [Ibx 1 0, Io 2 (.alloc [.sl .nil 5 [], .sl .nil 4 []])])
 (.seq (.rg [Io 8 (.bld [.sl .nil 5 [], .sl .nil 4 []] []), Io 3 (.alloc [.sl .nil 5 [], .sl .nil 4 []]), ⟨none, none, .st 2 (.t 3) (.t 8), []⟩])
 (.seq (.seq (.rg [Imv 4 0])
 (.block 0 (.loop [1, 2, 3, 4] (.seq (.seq (.rg [Im 9 4, If 10 0 1, Il 11 1 10, Iln 12 11, Ilt 13 9 12])
 (.cond (.t 13) .skip (.exit 0)))
 (.seq (.block 1 (.seq (.rg [If 16 0 1, Il 17 1 16, Im 18 4, Iia 19 5 17 18, Ilb 20 5 19, Io 5 (.alloc [.int .i64 0, .str [], .sl .nil 10 [], .sl .nil 2 [], .sl .nil 7 []]), ⟨none, none, .st 5 (.t 5) (.t 20), []⟩])
 (.seq (.rg [If 21 2 5, Il 22 1 21, Io 23 (.app 10 136 (.k (.sl .nil 10 [])) (.t 22)), If 24 2 5, ⟨none, none, .st 1 (.t 24) (.t 23), []⟩])
 (.seq (.reg [0, 1, 3, 4, 2, 6, 5, 7, 8, 9] [If 25 3 5, Il 26 1 25, If 28 4 5, Il 29 1 28, ⟨some 27, none, .call 19 [(.t 26)], [3]⟩, If 31 3 5, Io 30 (.call 9 [(.t 29)]), ⟨none, none, .st 1 (.t 31) (.t 27), []⟩, If 32 4 5, ⟨none, none, .st 1 (.t 32) (.t 30), []⟩])
 (.rg [If 33 0 3, Il 34 1 33, Ilb 35 5 5, Io 36 (.bls 5 1 [.int .i64 0, .str [], .sl .nil 10 [], .sl .nil 2 [], .sl .nil 7 []] [(0, (.t 35))]), Iap 37 5 96 34 36, If 38 0 3, ⟨none, none, .st 1 (.t 38) (.t 37), []⟩])))))
 (.rg [Im 14 4, Iai 15 14 1, Im 4 15]))))))
 (.seq (.seq (.rg [Imv 6 0])
 (.block 2 (.loop [1, 2, 3, 6] (.seq (.seq (.rg [Im 39 6, If 40 1 1, Il 41 1 40, Iln 42 41, Ilt 43 39 42])
 (.cond (.t 43) .skip (.exit 2)))
 (.seq (.block 3 (.seq (.rg [If 46 1 1, Il 47 1 46, Im 48 6, Iia 49 4 47 48, Ilb 50 4 49, Io 7 (.alloc [.str [], .str [], .sl .nil 2 [], .sl .nil 7 []]), ⟨none, none, .st 4 (.t 7) (.t 50), []⟩])
 (.seq (.reg [0, 1, 3, 4, 2, 6, 5, 7, 8, 9] [If 51 2 7, Il 52 1 51, If 54 3 7, Il 55 1 54, ⟨some 53, none, .call 19 [(.t 52)], [3]⟩, If 57 2 7, Io 56 (.call 9 [(.t 55)]), ⟨none, none, .st 1 (.t 57) (.t 53), []⟩, If 58 3 7, ⟨none, none, .st 1 (.t 58) (.t 56), []⟩])
 (.rg [If 59 1 3, Il 60 1 59, Ilb 61 4 7, Io 62 (.bls 4 1 [.str [], .str [], .sl .nil 2 [], .sl .nil 7 []] [(0, (.t 61))]), Iap 63 4 80 60 62, If 64 1 3, ⟨none, none, .st 1 (.t 64) (.t 63), []⟩]))))
 (.rg [Im 44 6, Iai 45 44 1, Im 6 45]))))))
 (.seq (.rg [Ilb 65 2 3, ⟨none, none, .st 2 (.t 2) (.t 65), []⟩])
 .ret))))⟩
theorem ck7:zh Tryz.prog 7 ir7=true:=by kernel_rfl
def ir8 : AFn := ⟨19, 2, [.c 4 4 true, .t 5], .seq (.rg [Ibx 2 0, Ibx 3 1, Io 4 (.alloc [.str [], .str [], .sl .nil 2 [], .sl .nil 7 []]), Imb 5 false])
 (.seq (.rg [If 7 1 2, Il 8 1 7, Io 9 (.mkfn 21 [] [(.t 3)]), Io 10 (.call 20 [(.t 8), (.t 9)]), Im 6 10])
 (.seq (.seq (.rg [Im 11 6, Io 12 (.bi .lss .i64 (.t 11) (.k (.int .i64 0)))])
 (.cond (.t 12) (.seq (.rg [Io 13 (.bld [.str [], .str [], .sl .nil 2 [], .sl .nil 7 []] []), ⟨none, none, .st 4 (.t 4) (.t 13), []⟩, Imb 5 false])
 .ret) .skip))
 (.seq (.rg [If 14 1 2, Il 15 1 14, Im 16 6, Iia 17 4 15 16, Ilb 18 4 17, ⟨none, none, .st 4 (.t 4) (.t 18), []⟩, Imb 5 true])
 .ret)))⟩
theorem ck8:zh Tryz.prog 8 ir8=true:=by kernel_rfl
def ir9 : AFn := ⟨33, 1, [.t 2], .seq (.rg [Io 2 (.mv (.k (.sl .nil 7 [])))])
 (.seq (.rg [Io 3 (.mv (.k (.sl .nil 7 [])))])
 (.seq (.seq (.rg [Imv 4 0])
 (.block 0 (.loop [0, 3, 4] (.seq (.seq (.rg [Im 6 4, Im 7 0, Iln 8 7, Ilt 9 6 8])
 (.cond (.t 9) .skip (.exit 0)))
 (.seq (.block 1 (.seq (.rg [Im 12 0, Im 13 4, Iia 14 7 12 13, Ilb 15 7 14, Io 5 (.alloc [.int .i64 0, .str [], .str [], .sl .nil 6 [], .sl .nil 2 [], .str [], .sl .nil 7 []]), ⟨none, none, .st 7 (.t 5) (.t 15), []⟩])
 (.seq (.reg [0, 1, 3, 4, 6, 7, 2, 9, 5, 8, 10, 11, 12, 13, 14] [If 16 3 5, Il 17 1 16, If 19 4 5, Il 20 1 19, If 22 6 5, Il 23 1 22, ⟨some 18, none, .call 22 [(.t 17)], [3, 5]⟩, If 25 3 5, ⟨some 21, none, .call 19 [(.t 20)], [5]⟩, Io 24 (.call 9 [(.t 23)]), ⟨none, none, .st 1 (.t 25) (.t 18), []⟩, If 26 4 5, ⟨none, none, .st 1 (.t 26) (.t 21), []⟩, If 27 6 5, ⟨none, none, .st 1 (.t 27) (.t 24), []⟩])
 (.rg [Im 28 3, Ilb 29 7 5, Io 30 (.bls 7 1 [.int .i64 0, .str [], .str [], .sl .nil 6 [], .sl .nil 2 [], .str [], .sl .nil 7 []] [(0, (.t 29))]), Iap 31 7 128 28 30, Im 3 31]))))
 (.rg [Im 10 4, Iai 11 10 1, Im 4 11]))))))
 (.seq (.rg [Im 32 3, Im 2 32])
 .ret)))⟩
theorem ck9:zh Tryz.prog 9 ir9=true:=by kernel_rfl
def ir10 : AFn := ⟨18, 2, [.t 4], .seq (.rg [Imb 4 false])
 (.seq (.seq (.rg [Imv 5 0])
 (.block 0 (.loop [0, 1, 5] (.seq (.seq (.rg [Im 6 5, Im 7 0, Iln 8 7, Ilt 9 6 8])
 (.cond (.t 9) .skip (.exit 0)))
 (.seq (.block 1 (.seq (.rg [Im 12 0, Im 13 5, Iia 14 1 12 13, Il 15 1 14, Im 16 1, Io 17 (.bs .eql (.t 15) (.t 16))])
 (.cond (.t 17) (.seq (.rg [Imb 4 true])
 .ret) .skip)))
 (.rg [Im 10 5, Iai 11 10 1, Im 5 11]))))))
 (.seq (.rg [Imb 4 false])
 .ret))⟩
theorem ck10:zh Tryz.prog 10 ir10=true:=by kernel_rfl
def ir11 : AFn := ⟨37, 2, [.t 4], .seq (.rg [Ibx 2 0, Io 4 (.mv (.k (.sl .nil 1 [])))])
 (.seq (.rg [Ilb 9 2 2, Im 10 1, Io 11 (.call 23 [(.t 9), (.t 10)]), Im 5 11])
 (.seq (.rg [Io 6 (.mv (.k (.sl .nil 1 [])))])
 (.seq (.seq (.rg [If 12 1 2, Il 13 1 12, Iln 14 13, Imv 15 0])
 (.block 0 (.loop [5, 6, 13, 14, 15] (.seq (.rg [Ilt 16 15 14])
 (.seq (.cond (.t 16) .skip (.exit 0))
 (.seq (.block 1 (.seq (.rg [Iia 17 4 13 15, Ilb 18 4 17, Io 8 (.alloc [.str [], .str [], .sl .nil 2 [], .sl .nil 7 []]), ⟨none, none, .st 4 (.t 8) (.t 18), []⟩])
 (.seq (.rg [Im 19 5, If 20 0 8, Il 21 1 20, Io 22 (.call 24 [(.t 19), (.t 21)]), Im 23 22, Jm 24 23 6, Ja 25 23 0 8, Jl 26 23 1 25, Jt 27 23 (.call 24 [(.t 24), (.t 26)]), Jt 28 23 (.not (.t 27)), Ipf 29 23 28])
 (.cond (.t 29) (.rg [Im 30 6, If 31 0 8, Il 32 1 31, Io 33 (.bls 1 1 [.str []] [(0, (.t 32))]), Iap 34 1 16 30 33, Im 6 34]) .skip))))
 (.rg [Iai 35 15 1, Im 15 35])))))))
 (.seq (.rg [Im 36 6, Im 4 36])
 .ret))))⟩
theorem ck11:zh Tryz.prog 11 ir11=true:=by kernel_rfl
def ir12 : AFn := ⟨11, 1, [.t 2], .seq (.rg [Ibx 1 0, Imb 2 false])
 (.seq (.rg [Ilb 6 2 1, Io 7 (.call 25 [(.t 6)]), Im 5 7, Iex 8 5 0, Iex 9 5 1, Im 3 8, Im 4 9])
 (.seq (.rg [Im 10 4, Im 2 10])
 .ret))⟩
theorem ck12:zh Tryz.prog 12 ir12=true:=by kernel_rfl
def ir13 : AFn := ⟨72, 1, [.t 2], .seq (.rg [Ibx 1 0, Imb 2 false])
 (.seq (.rg [Imv 3 0])
 (.seq (.seq (.rg [Imv 4 0])
 (.block 0 (.loop [1, 3, 4] (.seq (.seq (.rg [Im 7 4, If 8 0 1, Il 9 1 8, Iln 10 9, Ilt 11 7 10])
 (.cond (.t 11) .skip (.exit 0)))
 (.seq (.block 1 (.seq (.rg [If 14 0 1, Il 15 1 14, Im 16 4, Iia 17 6 15 16, Ilb 18 6 17, Io 5 (.alloc [.int .i64 0, .str [], .sl .nil 1 [], .sl .nil 6 [], .sl .nil 1 [], .sl .nil 10 []]), ⟨none, none, .st 6 (.t 5) (.t 18), []⟩])
 (.seq (.reg [0, 1, 2, 3, 4, 5, 6, 7, 10, 11, 14, 15, 8, 9, 12, 13, 16, 17, 18] [Im 19 3, Iai 20 19 1, If 21 1 5, Il 22 1 21, Ils 23 22, Iad 24 20 23, If 25 2 5, Il 26 1 25, If 29 4 5, Il 30 1 29, If 33 5 5, Il 34 1 33, ⟨some 27, none, .call 26 [(.t 26)], [3, 9, 11]⟩, Iad 28 24 27, ⟨some 31, none, .call 26 [(.t 30)], [3, 11]⟩, Iad 32 28 31, ⟨some 35, none, .call 27 [(.t 34)], [3]⟩, Iad 36 32 35, Im 3 36])
 (.seq (.rg [Imv 6 0])
 (.block 2 (.loop [1, 3, 4, 5, 6] (.seq (.seq (.rg [Im 37 6, If 38 3 5, Il 39 1 38, Iln 40 39, Ilt 41 37 40])
 (.cond (.t 41) .skip (.exit 2)))
 (.seq (.block 3 (.reg [0, 1, 2, 3, 4, 5, 6, 7, 8, 9, 10, 11, 12, 13, 14, 15, 18, 19, 20, 21, 22, 23, 16, 17, 24, 25, 26] [Im 44 3, Iai 45 44 1, If 46 3 5, Il 47 1 46, Im 48 6, Iia 49 6 47 48, If 50 0 49, Il 51 1 50, Ils 52 51, Iad 53 45 52, If 54 3 5, Il 55 1 54, Im 56 6, Iia 57 6 55 56, If 58 1 57, Il 59 1 58, If 62 3 5, Il 63 1 62, Im 64 6, Iia 65 6 63 64, If 66 5 65, Il 67 1 66, ⟨some 60, none, .call 27 [(.t 59)], [3, 7, 17, 21]⟩, Iad 61 53 60, ⟨some 68, none, .call 28 [(.t 67)], [3, 7]⟩, Iad 69 61 68, Im 3 69]))
 (.rg [Im 42 6, Iai 43 42 1, Im 6 43])))))))))
 (.rg [Im 12 4, Iai 13 12 1, Im 4 13]))))))
 (.seq (.rg [Im 70 3, Io 71 (.bi .leq .i64 (.t 70) (.k (.int .i64 4000))), Im 2 71])
 .ret)))⟩
theorem ck13:zh Tryz.prog 13 ir13=true:=by kernel_rfl
def ir14 : AFn := ⟨112, 1, [.t 2], .seq (.rg [Ibx 1 0, Imb 2 false])
 (.seq (.rg [Imv 3 0])
 (.seq (.seq (.rg [Imv 4 0])
 (.block 0 (.loop [1, 3, 4] (.seq (.seq (.rg [Im 7 4, If 8 0 1, Il 9 1 8, Iln 10 9, Ilt 11 7 10])
 (.cond (.t 11) .skip (.exit 0)))
 (.seq (.block 1 (.seq (.reg [0, 1, 2, 3, 4, 5, 6, 7, 10, 11, 12, 13, 14, 15, 18, 19, 20, 21, 22, 23, 24, 8, 9, 16, 17, 25, 26] [Im 14 3, Iai 15 14 1, If 16 0 1, Il 17 1 16, Im 18 4, Iia 19 5 17 18, If 20 3 19, Il 21 1 20, If 24 0 1, Il 25 1 24, Im 26 4, Iia 27 5 25 26, If 28 4 27, Il 29 1 28, If 32 0 1, Il 33 1 32, Im 34 4, Iia 35 5 33 34, If 36 1 35, Il 37 1 36, Ils 38 37, ⟨some 22, none, .call 29 [(.t 21)], [9, 13, 15, 19]⟩, Iad 23 15 22, ⟨some 30, none, .call 30 [(.t 29)], [15, 19]⟩, Iad 31 23 30, Iad 39 31 38, Im 3 39])
 (.seq (.rg [Imv 5 0])
 (.block 2 (.loop [1, 3, 4, 5] (.seq (.seq (.rg [Im 40 5, If 41 0 1, Il 42 1 41, Im 43 4, Iia 44 5 42 43, If 45 2 44, Il 46 1 45, Iln 47 46, Ilt 48 40 47])
 (.cond (.t 48) .skip (.exit 2)))
 (.seq (.block 3 (.reg [0, 1, 2, 3, 4, 5, 6, 7, 8, 9, 10, 11, 14, 15, 16, 17, 18, 19, 20, 21, 22, 23, 24, 12, 13, 25, 26] [Im 51 3, Iai 52 51 1, If 53 0 1, Il 54 1 53, Im 55 4, Iia 56 5 54 55, If 57 2 56, Il 58 1 57, Im 59 5, Iia 60 10 58 59, If 61 5 60, Ilb 62 5 61, If 65 0 1, Il 66 1 65, Im 67 4, Iia 68 5 66 67, If 69 2 68, Il 70 1 69, Im 71 5, Iia 72 10 70 71, If 73 0 72, Il 74 1 73, Ils 75 74, ⟨some 63, none, .call 31 [(.t 62)], [13, 17, 21]⟩, Iad 64 52 63, Iad 76 64 75, Im 3 76]))
 (.rg [Im 49 5, Iai 50 49 1, Im 5 50]))))))))
 (.rg [Im 12 4, Iai 13 12 1, Im 4 13]))))))
 (.seq (.seq (.rg [Imv 6 0])
 (.block 4 (.loop [1, 3, 6] (.seq (.seq (.rg [Im 77 6, If 78 1 1, Il 79 1 78, Iln 80 79, Ilt 81 77 80])
 (.cond (.t 81) .skip (.exit 4)))
 (.seq (.block 5 (.reg [0, 1, 2, 3, 4, 5, 6, 7, 10, 11, 12, 13, 14, 15, 18, 19, 20, 21, 22, 23, 24, 8, 9, 16, 17, 25, 26] [Im 84 3, Iai 85 84 1, If 86 1 1, Il 87 1 86, Im 88 6, Iia 89 4 87 88, If 90 2 89, Il 91 1 90, If 94 1 1, Il 95 1 94, Im 96 6, Iia 97 4 95 96, If 98 3 97, Il 99 1 98, If 102 1 1, Il 103 1 102, Im 104 6, Iia 105 4 103 104, If 106 0 105, Il 107 1 106, Ils 108 107, ⟨some 92, none, .call 29 [(.t 91)], [9, 13, 15, 19]⟩, Iad 93 85 92, ⟨some 100, none, .call 30 [(.t 99)], [15, 19]⟩, Iad 101 93 100, Iad 109 101 108, Im 3 109]))
 (.rg [Im 82 6, Iai 83 82 1, Im 6 83]))))))
 (.seq (.rg [Im 110 3, Io 111 (.bi .leq .i64 (.t 110) (.k (.int .i64 3200))), Im 2 111])
 .ret))))⟩
theorem ck14:zh Tryz.prog 14 ir14=true:=by kernel_rfl
def ir15 : AFn := ⟨66, 3, [.t 6], .seq (.rg [Ibx 3 0, Imv 6 0])
 (.seq (.rg [Imv 7 0])
 (.seq (.seq (.rg [Imv 8 0])
 (.block 0 (.loop [1, 2, 3, 7, 8] (.seq (.seq (.rg [Im 11 8, Im 12 1, Iln 13 12, Ilt 14 11 13, Im 15 14, Jm 16 15 7, Jm 17 15 2, Jt 18 15 (.bi .leq .i64 (.t 16) (.t 17)), Ipf 19 15 18])
 (.cond (.t 19) .skip (.exit 0)))
 (.seq (.block 1 (.seq (.reg [0, 1, 2, 3, 4, 5, 6, 7, 8, 9, 10, 11, 12, 13] [Im 22 7, Iai 23 22 1, Ilb 24 2 3, Im 25 1, Im 26 8, Iia 27 7 25 26, If 28 6 27, Il 29 1 28, Im 30 2, Im 31 7, Io 32 (.bi .sub .i64 (.t 30) (.t 31)), Io 33 (.call 15 [(.t 24), (.t 29), (.t 32)]), Iad 34 23 33, Im 7 34])
 (.seq (.rg [Im 35 1, Im 36 8, Iia 37 7 35 36, If 38 0 37, Il 39 1 38, Iei 40 39 1, Im 41 40, Jm 42 41 7, Jm 43 41 2, Jt 44 41 (.bi .leq .i64 (.t 42) (.t 43)), Ipf 45 41 44])
 (.cond (.t 45) (.seq (.reg [0, 1, 2, 3, 4, 5, 6, 7, 8, 9, 10, 11, 12] [Ilb 47 2 3, Im 48 1, Im 49 8, Iia 50 7 48 49, If 51 2 50, Il 52 1 51, Io 53 (.call 32 [(.t 47), (.t 52)]), Im 46 53, Iex 54 46 0, Iex 55 46 1, Io 9 (.alloc [.str [], .str [], .sl .nil 2 [], .sl .nil 7 []]), ⟨none, none, .st 4 (.t 9) (.t 54), []⟩, Im 10 55])
 (.rg [Im 56 7, Ilb 57 2 3, If 58 3 9, Il 59 1 58, Im 60 2, Im 61 7, Io 62 (.bi .sub .i64 (.t 60) (.t 61)), Io 63 (.call 15 [(.t 57), (.t 59), (.t 62)]), Iad 64 56 63, Im 7 64])) .skip))))
 (.rg [Im 20 8, Iai 21 20 1, Im 8 21]))))))
 (.seq (.rg [Im 65 7, Im 6 65])
 .ret)))⟩
theorem ck15:zh Tryz.prog 15 ir15=true:=by kernel_rfl
def ir16 : AFn := ⟨13, 1, [.t 2], .seq (.rg [Ibx 1 0, Imv 2 0])
 (.seq (.seq (.rg [Imv 3 1])
 (.block 0 (.loop [1, 3] (.seq (.seq (.rg [Im 4 3, Io 5 (.bi .leq .i64 (.t 4) (.k (.int .i64 9)))])
 (.cond (.t 5) .skip (.exit 0)))
 (.seq (.block 1 (.seq (.rg [Ilb 8 3 1, Im 9 3, Io 10 (.call 33 [(.t 8), (.t 9)]), Ing 11 10])
 (.cond (.t 11) (.seq (.rg [Im 12 3, Im 2 12])
 .ret) .skip)))
 (.rg [Im 6 3, Iai 7 6 1, Im 3 7]))))))
 (.seq (.rg [Imv 2 0])
 .ret))⟩
theorem ck16:zh Tryz.prog 16 ir16=true:=by kernel_rfl
def ir17 : AFn := ⟨53, 3, [.t 6], .seq (.rg [Ibx 3 0, Ibx 4 1, Imb 6 false])
 (.seq (.block 0 (.seq (.rg [Im 8 2, Io 9 (.bi .lss .i64 (.t 8) (.k (.int .i64 9))), Im 7 9])
 (.cond (.t 7) (.seq (.rg [Ilb 10 3 3, Ilb 11 2 4, Im 12 2, Io 13 (.call 34 [(.t 10), (.t 11), (.t 12)]), Im 6 13])
 .ret) (.seq (.rg [Im 15 2, Io 16 (.bi .lss .i64 (.t 15) (.k (.int .i64 12))), Im 14 16])
 (.cond (.t 14) (.seq (.rg [Ilb 17 3 3, Ilb 18 2 4, Im 19 2, Io 20 (.call 35 [(.t 17), (.t 18), (.t 19)]), Im 6 20])
 .ret) (.seq (.rg [Im 22 2, Io 23 (.bi .lss .i64 (.t 22) (.k (.int .i64 15))), Im 21 23])
 (.cond (.t 21) (.seq (.rg [Ilb 24 3 3, Ilb 25 2 4, Im 26 2, Io 27 (.call 36 [(.t 24), (.t 25), (.t 26)]), Im 6 27])
 .ret) (.seq (.rg [Im 29 2, Io 30 (.bi .lss .i64 (.t 29) (.k (.int .i64 18))), Im 28 30])
 (.cond (.t 28) (.seq (.rg [Ilb 31 3 3, Ilb 32 2 4, Im 33 2, Io 34 (.call 37 [(.t 31), (.t 32), (.t 33)]), Im 6 34])
 .ret) (.seq (.rg [Im 36 2, Io 37 (.bi .lss .i64 (.t 36) (.k (.int .i64 22))), Im 35 37])
 (.cond (.t 35) (.seq (.rg [Ilb 38 3 3, Ilb 39 2 4, Im 40 2, Io 41 (.call 38 [(.t 38), (.t 39), (.t 40)]), Im 6 41])
 .ret) (.seq (.rg [Im 43 2, Io 44 (.bi .lss .i64 (.t 43) (.k (.int .i64 24))), Im 42 44])
 (.cond (.t 42) (.seq (.rg [Ilb 45 3 3, Ilb 46 2 4, Im 47 2, Io 48 (.call 39 [(.t 45), (.t 46), (.t 47)]), Im 6 48])
 .ret) .skip)))))))))))))
 (.seq (.rg [Ilb 49 3 3, Ilb 50 2 4, Im 51 2, Io 52 (.call 40 [(.t 49), (.t 50), (.t 51)]), Im 6 52])
 .ret))⟩
theorem ck17:zh Tryz.prog 17 ir17=true:=by kernel_rfl
def ir18 : AFn := ⟨7, 0, [.c 0 3 true], .seq (.rg [Io 0 (.alloc [.sl .nil 6 [], .str [], .str []])])
 (.seq (.rg [Io 1 (.bld [.str [], .int .i64 0, .int .i64 0] [(0, 1, (.k (.str [73, 110, 116])))]), Io 2 (.bld [.str [], .sl .nil 10 [], .str [], .int .i64 0, .int .i64 0, .sl .nil 2 []] [(0, 1, (.k (.str [97]))), (2, 3, (.t 1))]), Io 3 (.bls 6 1 [.str [], .sl .nil 10 [], .str [], .int .i64 0, .int .i64 0, .sl .nil 2 []] [(0, (.t 2))]), Io 4 (.bld [.int .i64 0, .str [], .sl .nil 1 [], .sl .nil 6 [], .sl .nil 1 [], .sl .nil 10 []] [(0, 1, (.k (.int .i64 1))), (1, 1, (.k (.str [81]))), (3, 1, (.t 3))]), Io 5 (.bls 6 1 [.int .i64 0, .str [], .sl .nil 1 [], .sl .nil 6 [], .sl .nil 1 [], .sl .nil 10 []] [(0, (.t 4))]), Io 6 (.bld [.sl .nil 6 [], .str [], .str []] [(1, 1, (.k (.str [81]))), (0, 1, (.t 5))]), ⟨none, none, .st 3 (.t 0) (.t 6), []⟩])
 .ret)⟩
theorem ck18:zh Tryz.prog 18 ir18=true:=by kernel_rfl
def ir19 : AFn := ⟨27, 1, [.t 2], .seq (.rg [Io 2 (.mv (.k (.sl .nil 2 [])))])
 (.seq (.rg [Io 3 (.mv (.k (.sl .nil 2 [])))])
 (.seq (.seq (.rg [Imv 4 0])
 (.block 0 (.loop [0, 3, 4] (.seq (.seq (.rg [Im 5 4, Im 6 0, Iln 7 6, Ilt 8 5 7])
 (.cond (.t 8) .skip (.exit 0)))
 (.seq (.block 1 (.reg [0, 1, 2, 3, 4, 5, 6, 7, 8, 9, 10, 11, 12, 13, 14, 15] [Im 11 3, Im 12 0, Im 13 4, Iia 14 2 12 13, If 15 0 14, Il 16 1 15, Im 17 0, Im 18 4, Iia 19 2 17 18, If 20 1 19, Il 21 1 20, ⟨some 22, none, .call 22 [(.t 21)], [5]⟩, Io 23 (.bld [.str [], .sl .nil 6 []] [(0, 1, (.t 16)), (1, 1, (.t 22))]), Io 24 (.bls 2 1 [.str [], .sl .nil 6 []] [(0, (.t 23))]), Iap 25 2 40 11 24, Im 3 25]))
 (.rg [Im 9 4, Iai 10 9 1, Im 4 10]))))))
 (.seq (.rg [Im 26 3, Im 2 26])
 .ret)))⟩
theorem ck19:zh Tryz.prog 19 ir19=true:=by kernel_rfl
def ir20 : AFn := ⟨19, 2, [.t 4], .seq (.rg [Imv 4 0])
 (.seq (.seq (.rg [Im 6 0, Iln 7 6, Imv 8 0])
 (.block 0 (.loop [0, 1, 7, 8] (.seq (.rg [Ilt 9 8 7])
 (.seq (.cond (.t 9) .skip (.exit 0))
 (.seq (.block 1 (.seq (.rg [Im 10 8, Im 5 10])
 (.seq (.rg [Im 11 1, Im 12 0, Im 13 5, Iia 14 4 12 13, Ilb 15 4 14, Io 16 (.callv (.t 11) [(.t 15)])])
 (.cond (.t 16) (.seq (.rg [Im 17 5, Im 4 17])
 .ret) .skip))))
 (.rg [Iai 18 8 1, Im 8 18])))))))
 (.seq (.rg [Io 4 (.mv (.k (.int .i64 (-1))))])
 .ret))⟩
theorem ck20:zh Tryz.prog 20 ir20=true:=by kernel_rfl
def ir21 : AFn := ⟨8, 2, [.t 3], .seq (.rg [Ibx 2 0, Imb 3 false])
 (.seq (.rg [If 4 0 2, Il 5 1 4, Il 6 1 1, Io 7 (.bs .eql (.t 5) (.t 6)), Im 3 7])
 .ret)⟩
theorem ck21:zh Tryz.prog 21 ir21=true:=by kernel_rfl
def ir22 : AFn := ⟨27, 1, [.t 2], .seq (.rg [Io 2 (.mv (.k (.sl .nil 6 [])))])
 (.seq (.rg [Io 3 (.mv (.k (.sl .nil 6 [])))])
 (.seq (.seq (.rg [Imv 4 0])
 (.block 0 (.loop [0, 3, 4] (.seq (.seq (.rg [Im 5 4, Im 6 0, Iln 7 6, Ilt 8 5 7])
 (.cond (.t 8) .skip (.exit 0)))
 (.seq (.block 1 (.reg [0, 1, 2, 3, 4, 5, 6, 7, 8, 9, 10, 11, 12, 13, 14, 15] [Im 11 3, Im 12 0, Im 13 4, Iia 14 6 12 13, If 15 0 14, Il 16 1 15, Im 17 0, Im 18 4, Iia 19 6 17 18, If 20 1 19, Ilb 21 5 20, ⟨some 22, none, .call 41 [(.t 21)], [5]⟩, Io 23 (.bld [.str [], .int .i64 0, .int .i64 0, .str [], .sl .nil 5 [], .sl .nil 6 []] [(0, 1, (.t 16)), (1, 5, (.t 22))]), Io 24 (.bls 6 1 [.str [], .int .i64 0, .int .i64 0, .str [], .sl .nil 5 [], .sl .nil 6 []] [(0, (.t 23))]), Iap 25 6 96 11 24, Im 3 25]))
 (.rg [Im 9 4, Iai 10 9 1, Im 4 10]))))))
 (.seq (.rg [Im 26 3, Im 2 26])
 .ret)))⟩
theorem ck22:zh Tryz.prog 22 ir22=true:=by kernel_rfl
def ir23 : AFn := ⟨33, 2, [.t 4], .seq (.rg [Ibx 2 0, Io 4 (.mv (.k (.sl .nil 1 [])))])
 (.scope (.seq (.rg [Im 9 1, Io 10 (.call 42 [(.k (.sl .nil 1 [])), (.t 9)]), Im 5 10])
 (.seq .skip
 (.seq (.seq (.rg [Imv 6 0])
 (.block 0 (.loop [2, 5, 6] (.seq (.block 1 (.seq (.seq (.rg [Im 13 6, Im 14 5, Iln 15 14, Io 16 (.bi .geq .i64 (.t 13) (.t 15))])
 (.cond (.t 16) (.exit 0) .skip))
 (.seq (.reg [0, 1, 2, 3, 4, 5, 6, 7, 8, 9, 10, 11] [Ilb 18 2 2, Im 19 5, Im 20 6, Iia 21 1 19 20, Il 22 1 21, Io 23 (.call 8 [(.t 18), (.t 22)]), Im 17 23, Iex 24 17 0, Iex 25 17 1, Io 7 (.alloc [.str [], .str [], .sl .nil 2 [], .sl .nil 7 []]), ⟨none, none, .st 4 (.t 7) (.t 24), []⟩, Im 8 25])
 (.seq (.seq (.rg [Im 26 8, Ing 27 26])
 (.cond (.t 27) (.exit 1) .skip))
 (.rg [Im 28 5, If 29 3 7, Il 30 1 29, Io 31 (.call 42 [(.t 28), (.t 30)]), Im 5 31])))))
 (.rg [Im 11 6, Iai 12 11 1, Im 6 12])))))
 (.seq (.rg [Im 32 5, Im 4 32])
 .ret)))))⟩
theorem ck23:zh Tryz.prog 23 ir23=true:=by kernel_rfl
def ir24 : AFn := ⟨9, 2, [.t 4], .seq (.rg [Imb 4 false])
 (.seq (.rg [Im 5 0, Im 6 1, Io 7 (.call 43 [(.t 5), (.t 6)]), Io 8 (.bi .geq .i64 (.t 7) (.k (.int .i64 0))), Im 4 8])
 .ret)⟩
theorem ck24:zh Tryz.prog 24 ir24=true:=by kernel_rfl
def ir25 : AFn := ⟨51, 1, [.t 2, .t 3], .seq (.rg [Ibx 1 0, Io 2 (.mv (.k (.sl .nil 2 []))), Imb 3 false])
 (.seq (.rg [Io 9 (.call 44 []), Im 4 9])
 (.seq (.rg [Im 10 4, If 11 0 1, Il 12 1 11, Iln 13 12, If 14 1 1, Il 15 1 14, Iln 16 15, Iad 17 13 16, Igi 18 17 0, Io 19 (.call 45 [(.t 10), (.t 18)])])
 (.seq (.seq (.rg [If 20 0 1, Il 21 1 20, Iln 22 21, Imv 23 0])
 (.block 0 (.loop [1, 4, 21, 22, 23] (.seq (.rg [Ilt 24 23 22])
 (.seq (.cond (.t 24) .skip (.exit 0))
 (.seq (.block 1 (.seq (.rg [Iia 25 5 21 23, Ilb 26 5 25, Io 6 (.alloc [.int .i64 0, .str [], .sl .nil 10 [], .sl .nil 2 [], .sl .nil 7 []]), ⟨none, none, .st 5 (.t 6) (.t 26), []⟩])
 (.rg [Im 27 4, Ilb 28 5 6, Io 29 (.call 46 [(.t 27), (.t 28)])])))
 (.rg [Iai 30 23 1, Im 23 30])))))))
 (.seq (.seq (.rg [If 31 1 1, Il 32 1 31, Iln 33 32, Imv 34 0])
 (.block 2 (.loop [4, 32, 33, 34] (.seq (.rg [Ilt 35 34 33])
 (.seq (.cond (.t 35) .skip (.exit 2))
 (.seq (.block 3 (.seq (.rg [Iia 36 4 32 34, Ilb 37 4 36, Io 8 (.alloc [.str [], .str [], .sl .nil 2 [], .sl .nil 7 []]), ⟨none, none, .st 4 (.t 8) (.t 37), []⟩])
 (.rg [Im 38 4, Ilb 39 4 8, Io 40 (.call 47 [(.t 38), (.t 39)])])))
 (.rg [Iai 41 34 1, Im 34 41])))))))
 (.seq (.seq (.rg [Im 42 4, Ink 43 42, If 44 1 43, Il 45 1 44, Ing 46 45])
 (.cond (.t 46) (.seq (.rg [Io 2 (.mv (.k (.sl .nil 2 []))), Imb 3 false])
 .ret) .skip))
 (.seq (.rg [Im 47 4, Ink 48 47, If 49 0 48, Il 50 1 49, Im 2 50, Imb 3 true])
 .ret))))))⟩
theorem ck25:zh Tryz.prog 25 ir25=true:=by kernel_rfl
def ir26 : AFn := ⟨20, 1, [.t 2], .seq (.rg [Imv 2 0])
 (.seq (.rg [Imv 3 0])
 (.seq (.seq (.rg [Imv 4 0])
 (.block 0 (.loop [0, 3, 4] (.seq (.seq (.rg [Im 5 4, Im 6 0, Iln 7 6, Ilt 8 5 7])
 (.cond (.t 8) .skip (.exit 0)))
 (.seq (.block 1 (.rg [Im 11 3, Iai 12 11 1, Im 13 0, Im 14 4, Iia 15 1 13 14, Il 16 1 15, Ils 17 16, Iad 18 12 17, Im 3 18]))
 (.rg [Im 9 4, Iai 10 9 1, Im 4 10]))))))
 (.seq (.rg [Im 19 3, Im 2 19])
 .ret)))⟩
theorem ck26:zh Tryz.prog 26 ir26=true:=by kernel_rfl
def ir27 : AFn := ⟨28, 1, [.t 2], .seq (.rg [Imv 2 0])
 (.seq (.rg [Imv 3 0])
 (.seq (.seq (.rg [Imv 4 0])
 (.block 0 (.loop [0, 3, 4] (.seq (.seq (.rg [Im 5 4, Im 6 0, Iln 7 6, Ilt 8 5 7])
 (.cond (.t 8) .skip (.exit 0)))
 (.seq (.block 1 (.reg [0, 1, 2, 3, 4, 5, 6, 7, 8, 9, 10, 11, 12, 13, 14, 15, 16] [Im 11 3, Iai 12 11 1, Im 13 0, Im 14 4, Iia 15 10 13 14, If 16 0 15, Il 17 1 16, Ils 18 17, Iad 19 12 18, Im 20 0, Im 21 4, Iia 22 10 20 21, If 23 5 22, Ilb 24 5 23, ⟨some 25, none, .call 31 [(.t 24)], [6]⟩, Iad 26 19 25, Im 3 26]))
 (.rg [Im 9 4, Iai 10 9 1, Im 4 10]))))))
 (.seq (.rg [Im 27 3, Im 2 27])
 .ret)))⟩
theorem ck27:zh Tryz.prog 27 ir27=true:=by kernel_rfl
def ir28 : AFn := ⟨29, 1, [.t 2], .seq (.rg [Imv 2 0])
 (.seq (.rg [Imv 3 0])
 (.seq (.seq (.rg [Imv 4 0])
 (.block 0 (.loop [0, 3, 4] (.seq (.seq (.rg [Im 5 4, Im 6 0, Iln 7 6, Ilt 8 5 7])
 (.cond (.t 8) .skip (.exit 0)))
 (.seq (.block 1 (.reg [0, 1, 2, 3, 4, 5, 6, 7, 8, 9, 10, 11, 12, 13, 14, 15, 16, 17] [Im 11 3, Iai 12 11 1, Im 13 0, Im 14 4, Iia 15 2 13 14, If 16 0 15, Il 17 1 16, Ils 18 17, Iad 19 12 18, Im 20 0, Im 21 4, Iia 22 2 20 21, If 23 1 22, Il 24 1 23, Io 25 (.bld [.int .i64 0, .int .i64 0, .str [], .sl .nil 5 [], .sl .nil 6 []] [(4, 1, (.t 24))]), ⟨some 26, none, .call 31 [(.t 25)], [6]⟩, Iad 27 19 26, Im 3 27]))
 (.rg [Im 9 4, Iai 10 9 1, Im 4 10]))))))
 (.seq (.rg [Im 28 3, Im 2 28])
 .ret)))⟩
theorem ck28:zh Tryz.prog 28 ir28=true:=by kernel_rfl
def ir29 : AFn := ⟨29, 1, [.t 2], .seq (.rg [Imv 2 0])
 (.seq (.rg [Imv 3 0])
 (.seq (.seq (.rg [Imv 4 0])
 (.block 0 (.loop [0, 3, 4] (.seq (.seq (.rg [Im 5 4, Im 6 0, Iln 7 6, Ilt 8 5 7])
 (.cond (.t 8) .skip (.exit 0)))
 (.seq (.block 1 (.reg [0, 1, 2, 3, 4, 5, 6, 7, 8, 9, 10, 11, 12, 13, 14, 15, 16, 17] [Im 11 3, Iai 12 11 1, Im 13 0, Im 14 4, Iia 15 2 13 14, If 16 0 15, Il 17 1 16, Ils 18 17, Iad 19 12 18, Im 20 0, Im 21 4, Iia 22 2 20 21, If 23 1 22, Il 24 1 23, Io 25 (.bld [.int .i64 0, .int .i64 0, .str [], .sl .nil 5 [], .sl .nil 6 []] [(4, 1, (.t 24))]), ⟨some 26, none, .call 31 [(.t 25)], [6]⟩, Iad 27 19 26, Im 3 27]))
 (.rg [Im 9 4, Iai 10 9 1, Im 4 10]))))))
 (.seq (.rg [Im 28 3, Im 2 28])
 .ret)))⟩
theorem ck29:zh Tryz.prog 29 ir29=true:=by kernel_rfl
def ir30 : AFn := ⟨57, 1, [.t 2], .seq (.rg [Imv 2 0])
 (.seq (.rg [Imv 3 0])
 (.seq (.seq (.rg [Imv 4 0])
 (.block 0 (.loop [0, 3, 4] (.seq (.seq (.rg [Im 5 4, Im 6 0, Iln 7 6, Ilt 8 5 7])
 (.cond (.t 8) .skip (.exit 0)))
 (.seq (.block 1 (.reg [0, 1, 2, 3, 4, 5, 6, 7, 8, 9, 10, 11, 12, 13, 14, 15, 16, 17, 18, 19, 20, 21, 22, 23, 24, 25, 26, 27, 28, 31, 32, 33, 34, 35, 38, 39, 40, 41, 42, 29, 30, 36, 37, 43, 44, 45] [Im 11 3, Iai 12 11 1, Im 13 0, Im 14 4, Iia 15 7 13 14, If 16 2 15, Il 17 1 16, Ils 18 17, Iad 19 12 18, Im 20 0, Im 21 4, Iia 22 7 20 21, If 23 1 22, Il 24 1 23, Ils 25 24, Iad 26 19 25, Im 27 0, Im 28 4, Iia 29 7 27 28, If 30 5 29, Il 31 1 30, Ils 32 31, Iad 33 26 32, Im 34 0, Im 35 4, Iia 36 7 34 35, If 37 3 36, Il 38 1 37, Io 39 (.bld [.int .i64 0, .int .i64 0, .str [], .sl .nil 5 [], .sl .nil 6 []] [(4, 1, (.t 38))]), Im 42 0, Im 43 4, Iia 44 7 42 43, If 45 4 44, Il 46 1 45, Im 49 0, Im 50 4, Iia 51 7 49 50, If 52 6 51, Il 53 1 52, ⟨some 40, none, .call 31 [(.t 39)], [6, 13, 20, 33, 38]⟩, Iad 41 33 40, ⟨some 47, none, .call 29 [(.t 46)], [6, 13, 20, 38]⟩, Iad 48 41 47, ⟨some 54, none, .call 30 [(.t 53)], [6, 13, 20]⟩, Iad 55 48 54, Im 3 55]))
 (.rg [Im 9 4, Iai 10 9 1, Im 4 10]))))))
 (.seq (.rg [Im 56 3, Im 2 56])
 .ret)))⟩
theorem ck30:zh Tryz.prog 30 ir30=true:=by kernel_rfl
def ir31 : AFn := ⟨50, 1, [.t 2], .seq (.rg [Ibx 1 0, Imv 2 0])
 (.seq (.rg [If 6 2 1, Il 7 1 6, Ils 8 7, Io 9 (.bi .add .i64 (.k (.int .i64 1)) (.t 8)), Im 3 9])
 (.seq (.seq (.rg [Imv 4 0])
 (.block 0 (.loop [1, 3, 4] (.seq (.seq (.rg [Im 10 4, If 11 3 1, Il 12 1 11, Iln 13 12, Ilt 14 10 13])
 (.cond (.t 14) .skip (.exit 0)))
 (.seq (.block 1 (.rg [Im 17 3, If 18 3 1, Il 19 1 18, Im 20 4, Iia 21 5 19 20, Ilb 22 5 21, Io 23 (.call 31 [(.t 22)]), Iad 24 17 23, Im 3 24]))
 (.rg [Im 15 4, Iai 16 15 1, Im 4 16]))))))
 (.seq (.seq (.rg [Imv 5 0])
 (.block 2 (.loop [1, 3, 5] (.seq (.seq (.rg [Im 25 5, If 26 4 1, Il 27 1 26, Iln 28 27, Ilt 29 25 28])
 (.cond (.t 29) .skip (.exit 2)))
 (.seq (.block 3 (.reg [0, 1, 2, 3, 4, 5, 6, 7, 8, 9, 10, 11, 12, 13, 14, 15, 16, 17] [Im 32 3, If 33 4 1, Il 34 1 33, Im 35 5, Iia 36 6 34 35, If 37 0 36, Il 38 1 37, Ils 39 38, Iad 40 32 39, If 41 4 1, Il 42 1 41, Im 43 5, Iia 44 6 42 43, If 45 1 44, Ilb 46 5 45, ⟨some 47, none, .call 31 [(.t 46)], [2, 6]⟩, Iad 48 40 47, Im 3 48]))
 (.rg [Im 30 5, Iai 31 30 1, Im 5 31]))))))
 (.seq (.rg [Im 49 3, Im 2 49])
 .ret))))⟩
theorem ck31:zh Tryz.prog 31 ir31=true:=by kernel_rfl
def ir32 : AFn := ⟨28, 2, [.c 4 4 true, .t 5], .seq (.rg [Ibx 2 0, Io 4 (.alloc [.str [], .str [], .sl .nil 2 [], .sl .nil 7 []]), Imb 5 false])
 (.seq (.seq (.rg [Imv 6 0])
 (.block 0 (.loop [1, 2, 4, 6] (.seq (.seq (.rg [Im 7 6, If 8 1 2, Il 9 1 8, Iln 10 9, Ilt 11 7 10])
 (.cond (.t 11) .skip (.exit 0)))
 (.seq (.block 1 (.seq (.rg [If 14 1 2, Il 15 1 14, Im 16 6, Iia 17 4 15 16, If 18 0 17, Il 19 1 18, Im 20 1, Io 21 (.bs .eql (.t 19) (.t 20))])
 (.cond (.t 21) (.seq (.rg [If 22 1 2, Il 23 1 22, Im 24 6, Iia 25 4 23 24, Ilb 26 4 25, ⟨none, none, .st 4 (.t 4) (.t 26), []⟩, Imb 5 true])
 .ret) .skip)))
 (.rg [Im 12 6, Iai 13 12 1, Im 6 13]))))))
 (.seq (.rg [Io 27 (.bld [.str [], .str [], .sl .nil 2 [], .sl .nil 7 []] []), ⟨none, none, .st 4 (.t 4) (.t 27), []⟩, Imb 5 false])
 .ret))⟩
theorem ck32:zh Tryz.prog 32 ir32=true:=by kernel_rfl
def ir33 : AFn := ⟨42, 2, [.t 4], .seq (.rg [Ibx 2 0, Imb 4 false])
 (.seq (.seq (.rg [Im 5 1])
 (.block 0 (.seq (.rg [Iei 7 5 1, Im 6 7])
 (.cond (.t 6) (.seq (.rg [Ilb 8 3 2, Io 9 (.call 48 [(.t 8)]), Im 4 9])
 .ret) (.seq (.rg [Iei 11 5 2, Im 10 11])
 (.cond (.t 10) (.seq (.rg [Ilb 12 3 2, Io 13 (.call 49 [(.t 12)]), Im 4 13])
 .ret) (.seq (.rg [Iei 15 5 3, Im 14 15])
 (.cond (.t 14) (.seq (.rg [Ilb 16 3 2, Io 17 (.call 50 [(.t 16)]), Im 4 17])
 .ret) (.seq (.rg [Iei 19 5 4, Im 18 19])
 (.cond (.t 18) (.seq (.rg [Ilb 20 3 2, Io 21 (.call 51 [(.t 20)]), Im 4 21])
 .ret) (.seq (.rg [Iei 23 5 5, Im 22 23])
 (.cond (.t 22) (.seq (.rg [Ilb 24 3 2, Io 25 (.call 52 [(.t 24)]), Im 4 25])
 .ret) (.seq (.rg [Iei 27 5 6, Im 26 27])
 (.cond (.t 26) (.seq (.rg [Ilb 28 3 2, Io 29 (.call 53 [(.t 28)]), Im 4 29])
 .ret) (.seq (.rg [Iei 31 5 7, Im 30 31])
 (.cond (.t 30) (.seq (.rg [Ilb 32 3 2, Io 33 (.call 54 [(.t 32)]), Im 4 33])
 .ret) (.seq (.rg [Iei 35 5 8, Im 34 35])
 (.cond (.t 34) (.seq (.rg [Ilb 36 3 2, Io 37 (.call 55 [(.t 36)]), Im 4 37])
 .ret) (.seq (.rg [Iei 39 5 9, Im 38 39])
 (.cond (.t 38) (.seq (.rg [Ilb 40 3 2, Io 41 (.call 56 [(.t 40)]), Im 4 41])
 .ret) .skip))))))))))))))))))))
 (.seq (.rg [Imb 4 false])
 .ret))⟩
theorem ck33:zh Tryz.prog 33 ir33=true:=by kernel_rfl
def ir34 : AFn := ⟨67, 3, [.t 6], .seq (.rg [Ibx 3 0, Ibx 4 1, Imb 6 false])
 (.seq (.seq (.rg [Im 7 2])
 (.block 0 (.seq (.rg [Iei 9 7 1, Im 8 9])
 (.cond (.t 8) (.seq (.rg [Ilb 10 2 4, Io 11 (.call 58 [(.t 10)]), Io 12 (.call 57 [(.t 11)]), Ing 13 12, Im 6 13])
 .ret) (.seq (.rg [Iei 15 7 2, Im 14 15])
 (.cond (.t 14) (.seq (.rg [If 16 0 4, Il 17 1 16, Iln 18 17, Igi 19 18 0, Im 20 19, Ja 21 20 0 4, Jl 22 20 1 21, Jt 23 20 (.len (.t 22)), Jt 24 20 (.bi .eql .i64 (.t 23) (.k (.int .i64 1))), Jm 25 20 24, Jf 26 25 (.ld 2 true (.t 4)), Jf 27 25 (.call 59 [(.t 26)]), Jf 28 25 (.call 24 [(.t 27), (.k (.str []))]), Jf 29 25 (.not (.t 28)), Jt 30 20 (.pick (.t 25) (.k (.bool true)) (.t 29)), Ipf 31 20 30, Im 6 31])
 .ret) (.seq (.rg [Iei 33 7 3, Im 32 33])
 (.cond (.t 32) (.seq (.rg [If 34 2 3, Il 35 1 34, Io 36 (.bs .neq (.t 35) (.k (.str []))), Im 37 36, Fa 38 37 0 4, Fl 39 37 1 38, Jf 40 37 (.call 60 [(.t 39), (.k (.clo 61 [] []))]), Jf 41 37 (.not (.t 40)), Ipt 42 37 41, Im 6 42])
 .ret) (.seq (.rg [Iei 44 7 4, Im 43 44])
 (.cond (.t 43) (.seq (.rg [Ilb 45 2 4, Io 46 (.call 62 [(.t 45)]), Io 47 (.call 57 [(.t 46)]), Ing 48 47, Im 6 48])
 .ret) (.seq (.rg [Iei 50 7 5, Im 49 50])
 (.cond (.t 49) (.seq (.rg [Ilb 51 3 3, Ilb 52 2 4, Io 53 (.call 63 [(.t 51), (.t 52)]), Im 6 53])
 .ret) (.seq (.rg [Iei 55 7 6, Im 54 55])
 (.cond (.t 54) (.seq (.rg [Ilb 56 2 4, Io 57 (.call 64 [(.t 56)]), Im 6 57])
 .ret) (.seq (.rg [Iei 59 7 7, Im 58 59])
 (.cond (.t 58) (.seq (.rg [Ilb 60 2 4, Io 61 (.call 65 [(.t 60)]), Ing 62 61, Im 6 62])
 .ret) (.seq (.rg [Iei 64 7 8, Im 63 64])
 (.cond (.t 63) (.seq (.rg [Ilb 65 2 4, Io 66 (.call 66 [(.t 65)]), Im 6 66])
 .ret) .skip))))))))))))))))))
 (.seq (.rg [Imb 6 false])
 .ret))⟩
theorem ck34:zh Tryz.prog 34 ir34=true:=by kernel_rfl
def ir35 : AFn := ⟨19, 3, [.t 6], .seq (.rg [Ibx 3 0, Ibx 4 1, Ibx 5 2, Imb 6 false])
 (.seq (.rg [Ilb 7 3 3, Ilb 8 2 4, Io 9 (.mkfn 68 [] [(.t 5), (.t 3), (.t 4)]), Io 10 (.call 67 [(.t 7), (.t 8), (.t 9)]), Im 11 10, Jl 12 11 1 5, Jt 13 11 (.bi .geq .i64 (.t 12) (.k (.int .i64 9))), Ipf 14 11 13, Im 15 14, Jl 16 15 1 5, Jt 17 15 (.bi .leq .i64 (.t 16) (.k (.int .i64 11))), Ipf 18 15 17, Im 6 18])
 .ret)⟩
theorem ck35:zh Tryz.prog 35 ir35=true:=by kernel_rfl
def ir36 : AFn := ⟨30, 3, [.t 6], .seq (.rg [Ibx 3 0, Ibx 4 1, Imb 6 false])
 (.seq (.seq (.rg [Im 7 2])
 (.block 0 (.seq (.rg [Iei 9 7 12, Im 8 9])
 (.cond (.t 8) (.seq (.rg [Ilb 10 2 4, Io 11 (.call 72 [(.t 10), (.k (.clo 73 [] []))]), Im 12 11, Jt 13 12 (.ld 3 true (.t 3)), Jt 14 12 (.ld 2 true (.t 4)), Jt 15 12 (.call 74 [(.t 13), (.t 14), (.k (.clo 73 [] []))]), Ipf 16 12 15, Im 6 16])
 .ret) (.seq (.rg [Iei 18 7 13, Im 17 18])
 (.cond (.t 17) (.seq (.rg [Ilb 19 2 4, Io 20 (.call 72 [(.t 19), (.k (.clo 75 [] []))]), Im 6 20])
 .ret) (.seq (.rg [Iei 22 7 14, Im 21 22])
 (.cond (.t 21) (.seq (.rg [Ilb 23 2 4, Io 24 (.call 72 [(.t 23), (.k (.clo 76 [] []))]), Im 25 24, Jt 26 25 (.ld 3 true (.t 3)), Jt 27 25 (.ld 2 true (.t 4)), Jt 28 25 (.call 74 [(.t 26), (.t 27), (.k (.clo 76 [] []))]), Ipf 29 25 28, Im 6 29])
 .ret) .skip))))))))
 (.seq (.rg [Imb 6 false])
 .ret))⟩
theorem ck36:zh Tryz.prog 36 ir36=true:=by kernel_rfl
def ir37 : AFn := ⟨23, 3, [.t 6], .seq (.rg [Ibx 3 0, Ibx 4 1, Imb 6 false])
 (.seq (.seq (.rg [Im 7 2])
 (.block 0 (.seq (.rg [Iei 9 7 15, Im 8 9])
 (.cond (.t 8) (.seq (.rg [Ilb 10 3 3, Ilb 11 2 4, Io 12 (.call 77 [(.t 10), (.t 11), (.k (.clo 78 [] []))]), Im 6 12])
 .ret) (.seq (.rg [Iei 14 7 16, Im 13 14])
 (.cond (.t 13) (.seq (.rg [Ilb 15 3 3, Ilb 16 2 4, Io 17 (.call 77 [(.t 15), (.t 16), (.k (.clo 79 [] []))]), Im 6 17])
 .ret) (.seq (.rg [Iei 19 7 17, Im 18 19])
 (.cond (.t 18) (.seq (.rg [Ilb 20 3 3, Ilb 21 2 4, Io 22 (.call 77 [(.t 20), (.t 21), (.k (.clo 80 [] []))]), Im 6 22])
 .ret) .skip))))))))
 (.seq (.rg [Imb 6 false])
 .ret))⟩
theorem ck37:zh Tryz.prog 37 ir37=true:=by kernel_rfl
def ir38 : AFn := ⟨20, 3, [.t 6], .seq (.rg [Ibx 3 0, Ibx 4 1, Ibx 5 2, Imb 6 false])
 (.seq (.rg [Il 7 1 5, Io 8 (.bi .geq .i64 (.t 7) (.k (.int .i64 18))), Im 9 8, Jl 10 9 1 5, Jt 11 9 (.bi .leq .i64 (.t 10) (.k (.int .i64 21))), Ipf 12 9 11, Im 13 12, Ja 14 13 0 4, Jl 15 13 1 14, Jt 16 13 (.mkfn 81 [] [(.t 3), (.t 4), (.t 5)]), Jt 17 13 (.call 60 [(.t 15), (.t 16)]), Jt 18 13 (.not (.t 17)), Ipf 19 13 18, Im 6 19])
 .ret)⟩
theorem ck38:zh Tryz.prog 38 ir38=true:=by kernel_rfl
def ir39 : AFn := ⟨18, 3, [.t 6], .seq (.rg [Ibx 3 0, Ibx 4 1, Imb 6 false])
 (.seq (.seq (.rg [Im 7 2])
 (.block 0 (.seq (.rg [Iei 9 7 22, Im 8 9])
 (.cond (.t 8) (.seq (.rg [Ilb 10 3 3, Ilb 11 2 4, Io 12 (.call 83 [(.t 10), (.t 11)]), Im 6 12])
 .ret) (.seq (.rg [Iei 14 7 23, Im 13 14])
 (.cond (.t 13) (.seq (.rg [Ilb 15 3 3, Ilb 16 2 4, Io 17 (.call 84 [(.t 15), (.t 16)]), Im 6 17])
 .ret) .skip))))))
 (.seq (.rg [Imb 6 false])
 .ret))⟩
theorem ck39:zh Tryz.prog 39 ir39=true:=by kernel_rfl
def ir40 : AFn := ⟨100, 3, [.t 6], .seq (.rg [Ibx 3 0, Ibx 4 1, Imb 6 false])
 (.seq (.seq (.rg [Im 17 2, Io 18 (.bi .neq .i64 (.t 17) (.k (.int .i64 24))), Im 19 18, Jf 20 19 (.ld 2 true (.t 4)), Jf 21 19 (.call 65 [(.t 20)]), Ipt 22 19 21])
 (.cond (.t 22) (.seq (.rg [Imb 6 false])
 .ret) .skip))
 (.seq (.rg [Ilb 23 3 3, Io 24 (.mkm (.one .s)), Io 25 (.mkm (.agg [(.i .i64), (.i .i64)])), Io 26 (.mkm (.agg [(.i .i64), (.i .i64)])), Io 27 (.bld [.sl .nil 6 [], .str [], .str [], .int .i64 0, .nilm, .nilm, .nilm] [(0, 3, (.t 23)), (4, 1, (.t 24)), (5, 1, (.t 25)), (6, 1, (.t 26))]), Io 28 (.box (.t 27)), Im 7 28])
 (.seq (.rg [Io 8 (.mv (.k (.sl .nil 1 [])))])
 (.seq (.seq (.rg [If 29 1 4, Il 30 1 29, Iln 31 30, Imv 32 0])
 (.block 0 (.loop [3, 4, 7, 8, 30, 31, 32] (.seq (.rg [Ilt 33 32 31])
 (.seq (.cond (.t 33) .skip (.exit 0))
 (.seq (.block 1 (.seq (.rg [Iia 34 4 30 32, Ilb 35 4 34, Io 10 (.alloc [.str [], .str [], .sl .nil 2 [], .sl .nil 7 []]), ⟨none, none, .st 4 (.t 10) (.t 35), []⟩])
 (.seq (.reg [0, 1, 2, 3, 4, 5, 6, 7, 8, 9, 10, 11] [Im 37 7, Ink 38 37, If 39 4 38, Il 40 1 39, If 41 0 10, Il 42 1 41, Io 43 (.lkp (.one .s) (.sl .nil 10 []) true (.t 40) (.t 42)), Im 36 43, Iex 44 36 0, Iex 45 36 1, Im 11 44, Im 12 45])
 (.seq (.rg [Im 46 12, Ing 47 46])
 (.cond (.t 47) (.seq (.reg [0, 1, 2, 3, 4, 5, 6, 7, 8, 9, 10, 11, 12] [Im 48 7, Ink 49 48, If 50 4 49, Il 51 1 50, If 52 0 10, Il 53 1 52, Im 54 7, If 55 1 10, Il 56 1 55, If 57 3 10, Il 58 1 57, ⟨some 59, none, .call 85 [(.t 54), (.t 56), (.t 58)], [3, 5]⟩, ⟨none, none, .mup (.one .s) (.t 51) (.t 53) (.t 59), []⟩])
 (.reg [0, 1, 2, 3, 4, 5, 6, 7, 8, 9, 10] [Im 60 8, Im 61 7, Ink 62 61, If 63 4 62, Il 64 1 63, If 65 0 10, Il 66 1 65, Io 67 (.lkp (.one .s) (.sl .nil 10 []) false (.t 64) (.t 66)), Io 68 (.bls 1 1 [.sl .nil 10 []] [(0, (.t 67))]), Iap 69 1 24 60 68, Im 8 69])) .skip)))))
 (.rg [Iai 70 32 1, Im 32 70])))))))
 (.seq (.seq (.rg [If 71 0 4, Il 72 1 71, Iln 73 72, Imv 74 0])
 (.block 2 (.loop [3, 7, 8, 72, 73, 74] (.seq (.rg [Ilt 75 74 73])
 (.seq (.cond (.t 75) .skip (.exit 2))
 (.seq (.block 3 (.seq (.rg [Iia 76 5 72 74, Ilb 77 5 76, Io 14 (.alloc [.int .i64 0, .str [], .sl .nil 10 [], .sl .nil 2 [], .sl .nil 7 []]), ⟨none, none, .st 5 (.t 14) (.t 77), []⟩])
 (.reg [0, 1, 2, 3, 5, 6, 4, 7, 8, 9, 10] [Im 78 8, Im 79 7, Ilb 80 3 3, Ilb 81 5 14, If 83 4 14, Il 84 1 83, ⟨some 82, none, .call 86 [(.t 80), (.t 81)], [5]⟩, Io 85 (.call 85 [(.t 79), (.t 82), (.t 84)]), Io 86 (.bls 1 1 [.sl .nil 10 []] [(0, (.t 85))]), Iap 87 1 24 78 86, Im 8 87])))
 (.rg [Iai 88 74 1, Im 74 88])))))))
 (.seq (.seq (.rg [Im 89 8, Iln 90 89, Imv 91 0])
 (.block 4 (.loop [7, 89, 90, 91] (.seq (.rg [Ilt 92 91 90])
 (.seq (.cond (.t 92) .skip (.exit 4))
 (.seq (.block 5 (.seq (.rg [Iia 93 1 89 91, Il 94 1 93, Im 16 94])
 (.seq (.rg [Im 95 7, Im 96 16, Io 97 (.call 87 [(.t 95), (.t 96)]), Ing 98 97])
 (.cond (.t 98) (.seq (.rg [Imb 6 false])
 .ret) .skip))))
 (.rg [Iai 99 91 1, Im 91 99])))))))
 (.seq (.rg [Imb 6 true])
 .ret)))))))⟩
theorem ck40:zh Tryz.prog 40 ir40=true:=by kernel_rfl
def ir41 : AFn := ⟨28, 1, [.c 2 5 true], .seq (.rg [Io 1 (.box (.t 0)), Io 2 (.alloc [.int .i64 0, .int .i64 0, .str [], .sl .nil 5 [], .sl .nil 6 []])])
 (.seq (.rg [Io 3 (.mv (.k (.sl .nil 5 [])))])
 (.seq (.seq (.rg [Imv 4 0])
 (.block 0 (.loop [1, 2, 3, 4] (.seq (.seq (.rg [Im 5 4, If 6 3 1, Il 7 1 6, Iln 8 7, Ilt 9 5 8])
 (.cond (.t 9) .skip (.exit 0)))
 (.seq (.block 1 (.rg [Im 12 3, If 13 3 1, Il 14 1 13, Im 15 4, Iia 16 5 14 15, Ilb 17 5 16, Io 18 (.call 41 [(.t 17)]), Io 19 (.bls 5 1 [.int .i64 0, .int .i64 0, .str [], .sl .nil 5 [], .sl .nil 6 []] [(0, (.t 18))]), Iap 20 5 80 12 19, Im 3 20]))
 (.rg [Im 10 4, Iai 11 10 1, Im 4 11]))))))
 (.seq (.rg [Im 21 3, If 22 4 1, Il 23 1 22, Io 24 (.call 22 [(.t 23)]), If 25 3 1, ⟨none, none, .st 1 (.t 25) (.t 21), []⟩, If 26 4 1, ⟨none, none, .st 1 (.t 26) (.t 24), []⟩])
 (.seq (.rg [Ilb 27 5 1, ⟨none, none, .st 5 (.t 2) (.t 27), []⟩])
 .ret))))⟩
theorem ck41:zh Tryz.prog 41 ir41=true:=by kernel_rfl
def ir42 : AFn := ⟨34, 2, [.t 4], .seq (.rg [Io 4 (.mv (.k (.sl .nil 1 [])))])
 (.seq (.seq (.rg [Im 7 1, Iln 8 7, Imv 9 0])
 (.block 0 (.loop [0, 7, 8, 9] (.seq (.rg [Ilt 10 9 8])
 (.seq (.cond (.t 10) .skip (.exit 0))
 (.seq (.block 1 (.seq (.rg [Iia 11 7 7 9, Ilb 12 7 11, Io 6 (.alloc [.int .i64 0, .str [], .str [], .sl .nil 6 [], .sl .nil 2 [], .str [], .sl .nil 7 []]), ⟨none, none, .st 7 (.t 6) (.t 12), []⟩])
 (.seq (.seq (.rg [If 13 0 6, Il 14 1 13, Iei 15 14 1, Im 16 15, Jm 17 16 0, Ja 18 16 2 6, Jl 19 16 1 18, Jt 20 16 (.call 24 [(.t 17), (.t 19)]), Jt 21 16 (.not (.t 20)), Ipf 22 16 21])
 (.cond (.t 22) (.rg [Im 23 0, If 24 2 6, Il 25 1 24, Io 26 (.bls 1 1 [.str []] [(0, (.t 25))]), Iap 27 1 16 23 26, Im 0 27]) .skip))
 (.rg [Im 28 0, If 29 6 6, Il 30 1 29, Io 31 (.call 42 [(.t 28), (.t 30)]), Im 0 31]))))
 (.rg [Iai 32 9 1, Im 9 32])))))))
 (.seq (.rg [Im 33 0, Im 4 33])
 .ret))⟩
theorem ck42:zh Tryz.prog 42 ir42=true:=by kernel_rfl
def ir43 : AFn := ⟨19, 2, [.t 4], .seq (.rg [Imv 4 0])
 (.seq (.seq (.rg [Im 6 0, Iln 7 6, Imv 8 0])
 (.block 0 (.loop [0, 1, 7, 8] (.seq (.rg [Ilt 9 8 7])
 (.seq (.cond (.t 9) .skip (.exit 0))
 (.seq (.block 1 (.seq (.rg [Im 10 8, Im 5 10])
 (.seq (.rg [Im 11 1, Im 12 0, Im 13 5, Iia 14 1 12 13, Il 15 1 14, Io 16 (.bs .eql (.t 11) (.t 15))])
 (.cond (.t 16) (.seq (.rg [Im 17 5, Im 4 17])
 .ret) .skip))))
 (.rg [Iai 18 8 1, Im 8 18])))))))
 (.seq (.rg [Io 4 (.mv (.k (.int .i64 (-1))))])
 .ret))⟩
theorem ck43:zh Tryz.prog 43 ir43=true:=by kernel_rfl
def ir44 : AFn := ⟨3, 0, [.t 0], .seq (.rg [Io 0 (.mv (.k (.nilp)))])
 (.seq (.rg [Io 1 (.bld [.sl .nil 2 [], .bool false, .int .i64 0] [(1, 1, (.k (.bool true)))]), Io 2 (.box (.t 1)), Im 0 2])
 .ret)⟩
theorem ck44:zh Tryz.prog 44 ir44=true:=by kernel_rfl
def ir45:AFn:=⟨14,2,[],.rg [Im 4 0,Im 5 0,Ink 6 5,If 7 1 6,Il 8 1 7,Im 9 8,Jm 10 9 1,Ipf 11 9 10,Ink 12 4,If 13 1 12,⟨none,none,.st 1 (.t 13) (.t 11),[]⟩]⟩
theorem ck45:zh Tryz.prog 45 ir45=true:=by kernel_rfl
def ir46 : AFn := ⟨71, 2, [], .seq (.rg [Ibx 3 1])
 (.seq (.seq (.rg [If 6 0 3, Il 7 1 6])
 (.block 0 (.seq (.rg [Iei 11 7 0, Im 10 11])
 (.cond (.t 10) (.rg [Im 12 0, Io 13 (.call 88 [(.t 12), (.k (.str [113, 117, 101, 114, 121]))])]) (.seq (.rg [Iei 15 7 1, Im 14 15])
 (.cond (.t 14) (.rg [Im 16 0, Io 17 (.call 88 [(.t 16), (.k (.str [109, 117, 116, 97, 116, 105, 111, 110]))])]) (.rg [Im 8 0, Io 9 (.call 45 [(.t 8), (.k (.bool false))])])))))))
 (.seq (.seq (.rg [If 18 1 3, Il 19 1 18, Io 20 (.bs .neq (.t 19) (.k (.str [])))])
 (.cond (.t 20) (.rg [Im 21 0, If 22 1 3, Il 23 1 22, Io 24 (.call 88 [(.t 21), (.t 23)])]) .skip))
 (.seq (.seq (.rg [If 25 2 3, Il 26 1 25, Iln 27 26, Igi 28 27 0])
 (.cond (.t 28) (.seq (.rg [Im 29 0, Io 30 (.bls 1 1 [.str []] [(0, (.k (.str [40])))]), Io 31 (.call 89 [(.t 29), (.t 30)])])
 (.seq (.seq (.rg [If 32 2 3, Il 33 1 32, Iln 34 33, Imv 35 0])
 (.block 1 (.loop [0, 3, 33, 34, 35] (.seq (.rg [Ilt 36 35 34])
 (.seq (.cond (.t 36) .skip (.exit 1))
 (.seq (.block 2 (.seq (.rg [Iia 37 10 33 35, Ilb 38 10 37, Io 5 (.alloc [.str [], .str [], .int .i64 0, .int .i64 0, .bool false, .int .i64 0, .int .i64 0, .str [], .sl .nil 5 [], .sl .nil 6 []]), ⟨none, none, .st 10 (.t 5) (.t 38), []⟩])
 (.seq (.rg [Im 39 0, Io 40 (.bls 1 1 [.str []] [(0, (.k (.str [36])))]), Io 41 (.call 89 [(.t 39), (.t 40)])])
 (.seq (.rg [Im 42 0, If 43 0 5, Il 44 1 43, Io 45 (.call 88 [(.t 42), (.t 44)])])
 (.seq (.rg [Im 46 0, Io 47 (.bls 1 1 [.str []] [(0, (.k (.str [58])))]), Io 48 (.call 89 [(.t 46), (.t 47)])])
 (.seq (.rg [Im 49 0, If 50 1 5, Ilb 51 3 50, Io 52 (.call 90 [(.t 49), (.t 51)])])
 (.rg [Im 53 0, If 54 4 5, Il 55 1 54, If 56 5 5, Ilb 57 5 56, Io 58 (.call 91 [(.t 53), (.t 55), (.t 57)])])))))))
 (.rg [Iai 59 35 1, Im 35 59])))))))
 (.rg [Im 60 0, Io 61 (.bls 1 1 [.str []] [(0, (.k (.str [41])))]), Io 62 (.call 89 [(.t 60), (.t 61)])]))) .skip))
 (.seq (.rg [Im 63 0, If 64 3 3, Il 65 1 64, Io 66 (.call 92 [(.t 63), (.k (.bool true)), (.t 65)])])
 (.rg [Im 67 0, If 68 4 3, Il 69 1 68, Io 70 (.call 93 [(.t 67), (.t 69)])])))))⟩
theorem ck46:zh Tryz.prog 46 ir46=true:=by kernel_rfl
def ir47 : AFn := ⟨29, 2, [], .seq (.rg [Ibx 3 1])
 (.seq (.rg [Im 4 0, If 5 0 3, Il 6 1 5, Io 7 (.bs .neq (.t 6) (.k (.str [111, 110]))), Io 8 (.call 45 [(.t 4), (.t 7)])])
 (.seq (.rg [Im 9 0, Io 10 (.call 88 [(.t 9), (.k (.str [102, 114, 97, 103, 109, 101, 110, 116]))])])
 (.seq (.rg [Im 11 0, If 12 0 3, Il 13 1 12, Io 14 (.call 88 [(.t 11), (.t 13)])])
 (.seq (.rg [Im 15 0, Io 16 (.call 88 [(.t 15), (.k (.str [111, 110]))])])
 (.seq (.rg [Im 17 0, If 18 1 3, Il 19 1 18, Io 20 (.call 88 [(.t 17), (.t 19)])])
 (.seq (.rg [Im 21 0, If 22 2 3, Il 23 1 22, Io 24 (.call 92 [(.t 21), (.k (.bool true)), (.t 23)])])
 (.rg [Im 25 0, If 26 3 3, Il 27 1 26, Io 28 (.call 93 [(.t 25), (.t 27)])])))))))⟩
theorem ck47:zh Tryz.prog 47 ir47=true:=by kernel_rfl
def ir48 : AFn := ⟨23, 1, [.t 2], .seq (.rg [Ibx 1 0, Imb 2 false])
 (.seq (.rg [If 4 0 1, Il 5 1 4, Io 6 (.call 94 [(.t 5), (.k (.clo 95 [] []))]), Im 3 6])
 (.seq (.rg [Ilb 7 3 1, Io 8 (.call 96 [(.t 7)]), Im 9 8, Jm 10 9 3, Jt 11 9 (.call 97 [(.t 10)]), Ipf 12 9 11, Im 13 12, Jm 14 13 3, Jt 15 13 (.call 98 [(.t 14)]), Ipf 16 13 15, Im 17 16, Jm 18 17 3, Jt 19 17 (.mkfn 100 [] [(.t 1)]), Jt 20 17 (.call 99 [(.t 18), (.t 19)]), Jt 21 17 (.not (.t 20)), Ipf 22 17 21, Im 2 22])
 .ret))⟩
theorem ck48:zh Tryz.prog 48 ir48=true:=by kernel_rfl
def ir49 : AFn := ⟨27, 1, [.t 2], .seq (.rg [Ibx 1 0, Imb 2 false])
 (.seq (.rg [Ilb 3 3 1, If 4 1 1, Il 5 1 4, Io 6 (.bls 1 1 [.int .i64 0] [(0, (.k (.int .i64 1)))]), Io 7 (.call 101 [(.t 3), (.t 5), (.t 6)]), Im 8 7, Ja 9 8 2 1, Jl 10 8 1 9, Jt 11 8 (.bs .eql (.t 10) (.k (.str []))), Jm 12 8 11, Fa 13 12 2 1, Fl 14 12 1 13, Fa 15 12 1 1, Fl 16 12 1 15, Jf 17 12 (.bs .neq (.t 14) (.t 16)), Fm 18 12 17, Jt 19 18 (.ld 3 true (.t 1)), Ja 20 18 2 1, Jl 21 18 1 20, Jt 22 18 (.bls 1 1 [.int .i64 0] [(0, (.k (.int .i64 1)))]), Jt 23 18 (.call 101 [(.t 19), (.t 21), (.t 22)]), Jf 24 12 (.pick (.t 18) (.t 23) (.k (.bool false))), Jt 25 8 (.pick (.t 12) (.k (.bool true)) (.t 24)), Ipf 26 8 25, Im 2 26])
 .ret)⟩
theorem ck49:zh Tryz.prog 49 ir49=true:=by kernel_rfl
def ir50 : AFn := ⟨7, 1, [.t 2], .seq (.rg [Ibx 1 0, Imb 2 false])
 (.seq (.rg [Io 3 (.alloc [.oth .nilFunc]), ⟨none, none, .st 1 (.t 3) (.k (.clo 102 [] [])), []⟩])
 (.seq (.rg [Ilb 4 3 1, Io 5 (.mkfn 104 [] [(.t 3)]), Io 6 (.call 103 [(.t 4), (.t 5)]), Im 2 6])
 .ret))⟩
theorem ck50:zh Tryz.prog 50 ir50=true:=by kernel_rfl
def ir51 : AFn := ⟨6, 1, [.t 2], .seq (.rg [Io 1 (.box (.t 0)), Imb 2 false])
 (.seq (.rg [Ilb 3 3 1, Io 4 (.mkfn 111 [] [(.t 1)]), Io 5 (.call 103 [(.t 3), (.t 4)]), Im 2 5])
 .ret)⟩
theorem ck51:zh Tryz.prog 51 ir51=true:=by kernel_rfl
def ir52 : AFn := ⟨6, 1, [.t 2], .seq (.rg [Io 1 (.box (.t 0)), Imb 2 false])
 (.seq (.rg [Ilb 3 3 1, Io 4 (.mkfn 116 [] [(.t 1)]), Io 5 (.call 103 [(.t 3), (.t 4)]), Im 2 5])
 .ret)⟩
theorem ck52:zh Tryz.prog 52 ir52=true:=by kernel_rfl
def ir53 : AFn := ⟨6, 1, [.t 2], .seq (.rg [Io 1 (.box (.t 0)), Imb 2 false])
 (.seq (.rg [Ilb 3 3 1, Io 4 (.mkfn 120 [] [(.t 1)]), Io 5 (.call 103 [(.t 3), (.t 4)]), Im 2 5])
 .ret)⟩
theorem ck53:zh Tryz.prog 53 ir53=true:=by kernel_rfl
def ir54 : AFn := ⟨6, 1, [.t 2], .seq (.rg [Io 1 (.box (.t 0)), Imb 2 false])
 (.seq (.rg [Ilb 3 3 1, Io 4 (.mkfn 123 [] [(.t 1)]), Io 5 (.call 103 [(.t 3), (.t 4)]), Im 2 5])
 .ret)⟩
theorem ck54:zh Tryz.prog 54 ir54=true:=by kernel_rfl
def ir55 : AFn := ⟨6, 1, [.t 2], .seq (.rg [Ibx 1 0, Imb 2 false])
 (.seq (.rg [Ilb 3 3 1, Io 4 (.mkfn 125 [] [(.t 1)]), Io 5 (.call 103 [(.t 3), (.t 4)]), Im 2 5])
 .ret)⟩
theorem ck55:zh Tryz.prog 55 ir55=true:=by kernel_rfl
def ir56 : AFn := ⟨6, 1, [.t 2], .seq (.rg [Io 1 (.box (.t 0)), Imb 2 false])
 (.seq (.rg [Ilb 3 3 1, Io 4 (.mkfn 127 [] [(.t 1)]), Io 5 (.call 103 [(.t 3), (.t 4)]), Im 2 5])
 .ret)⟩
theorem ck56:zh Tryz.prog 56 ir56=true:=by kernel_rfl
def ir57 : AFn := ⟨18, 1, [.t 2], .seq (.rg [Imb 2 false])
 (.seq (.seq (.rg [Im 5 0, Iln 6 5, Imv 7 0])
 (.block 0 (.loop [0, 5, 6, 7] (.seq (.rg [Ilt 8 7 6])
 (.seq (.cond (.t 8) .skip (.exit 0))
 (.seq (.block 1 (.seq (.rg [Im 9 7, Iia 10 1 5 7, Il 11 1 10, Im 3 9, Im 4 11])
 (.seq (.rg [Im 12 0, Im 13 3, Io 14 (.sll 1 (.t 12) none (some (.t 13)) none), Im 15 4, Io 16 (.call 24 [(.t 14), (.t 15)])])
 (.cond (.t 16) (.seq (.rg [Imb 2 true])
 .ret) .skip))))
 (.rg [Iai 17 7 1, Im 7 17])))))))
 (.seq (.rg [Imb 2 false])
 .ret))⟩
theorem ck57:zh Tryz.prog 57 ir57=true:=by kernel_rfl
def ir58 : AFn := ⟨23, 1, [.t 2], .seq (.rg [Ibx 1 0, Io 2 (.mv (.k (.sl .nil 1 [])))])
 (.seq (.rg [Io 3 (.mv (.k (.sl .nil 1 [])))])
 (.seq (.seq (.rg [If 6 0 1, Il 7 1 6, Iln 8 7, Imv 9 0])
 (.block 0 (.loop [3, 7, 8, 9] (.seq (.rg [Ilt 10 9 8])
 (.seq (.cond (.t 10) .skip (.exit 0))
 (.seq (.block 1 (.seq (.rg [Iia 11 5 7 9, Ilb 12 5 11, Io 5 (.alloc [.int .i64 0, .str [], .sl .nil 10 [], .sl .nil 2 [], .sl .nil 7 []]), ⟨none, none, .st 5 (.t 5) (.t 12), []⟩])
 (.seq (.rg [If 13 1 5, Il 14 1 13, Io 15 (.bs .neq (.t 14) (.k (.str [])))])
 (.cond (.t 15) (.rg [Im 16 3, If 17 1 5, Il 18 1 17, Io 19 (.bls 1 1 [.str []] [(0, (.t 18))]), Iap 20 1 16 16 19, Im 3 20]) .skip))))
 (.rg [Iai 21 9 1, Im 9 21])))))))
 (.seq (.rg [Im 22 3, Im 2 22])
 .ret)))⟩
theorem ck58:zh Tryz.prog 58 ir58=true:=by kernel_rfl
def ir59 : AFn := ⟨20, 1, [.t 2], .seq (.rg [Ibx 1 0, Io 2 (.mv (.k (.sl .nil 1 [])))])
 (.seq (.rg [Io 3 (.mv (.k (.sl .nil 1 [])))])
 (.seq (.seq (.rg [If 6 0 1, Il 7 1 6, Iln 8 7, Imv 9 0])
 (.block 0 (.loop [3, 7, 8, 9] (.seq (.rg [Ilt 10 9 8])
 (.seq (.cond (.t 10) .skip (.exit 0))
 (.seq (.block 1 (.seq (.rg [Iia 11 5 7 9, Ilb 12 5 11, Io 5 (.alloc [.int .i64 0, .str [], .sl .nil 10 [], .sl .nil 2 [], .sl .nil 7 []]), ⟨none, none, .st 5 (.t 5) (.t 12), []⟩])
 (.rg [Im 13 3, If 14 1 5, Il 15 1 14, Io 16 (.bls 1 1 [.str []] [(0, (.t 15))]), Iap 17 1 16 13 16, Im 3 17])))
 (.rg [Iai 18 9 1, Im 9 18])))))))
 (.seq (.rg [Im 19 3, Im 2 19])
 .ret)))⟩
theorem ck59:zh Tryz.prog 59 ir59=true:=by kernel_rfl
def ir60 : AFn := ⟨9, 2, [.t 4], .seq (.rg [Imb 4 false])
 (.seq (.rg [Im 5 0, Im 6 1, Io 7 (.call 132 [(.t 5), (.t 6)]), Io 8 (.bi .geq .i64 (.t 7) (.k (.int .i64 0))), Im 4 8])
 .ret)⟩
theorem ck60:zh Tryz.prog 60 ir60=true:=by kernel_rfl
def ir61 : AFn := ⟨6, 1, [.t 2], .seq (.rg [Ibx 1 0, Imb 2 false])
 (.seq (.rg [If 3 0 1, Il 4 1 3, Iei 5 4 1, Im 2 5])
 .ret)⟩
theorem ck61:zh Tryz.prog 61 ir61=true:=by kernel_rfl
def ir62 : AFn := ⟨20, 1, [.t 2], .seq (.rg [Ibx 1 0, Io 2 (.mv (.k (.sl .nil 1 [])))])
 (.seq (.rg [Io 3 (.mv (.k (.sl .nil 1 [])))])
 (.seq (.seq (.rg [If 6 1 1, Il 7 1 6, Iln 8 7, Imv 9 0])
 (.block 0 (.loop [3, 7, 8, 9] (.seq (.rg [Ilt 10 9 8])
 (.seq (.cond (.t 10) .skip (.exit 0))
 (.seq (.block 1 (.seq (.rg [Iia 11 4 7 9, Ilb 12 4 11, Io 5 (.alloc [.str [], .str [], .sl .nil 2 [], .sl .nil 7 []]), ⟨none, none, .st 4 (.t 5) (.t 12), []⟩])
 (.rg [Im 13 3, If 14 0 5, Il 15 1 14, Io 16 (.bls 1 1 [.str []] [(0, (.t 15))]), Iap 17 1 16 13 16, Im 3 17])))
 (.rg [Iai 18 9 1, Im 9 18])))))))
 (.seq (.rg [Im 19 3, Im 2 19])
 .ret)))⟩
theorem ck62:zh Tryz.prog 62 ir62=true:=by kernel_rfl
def ir63 : AFn := ⟨17, 2, [.t 4], .seq (.rg [Ibx 2 0, Ibx 3 1, Imb 4 false])
 (.seq (.rg [If 5 1 3, Il 6 1 5, Io 7 (.mkfn 134 [] [(.t 2)]), Io 8 (.call 133 [(.t 6), (.t 7)]), Ing 9 8, Im 10 9, Jt 11 10 (.ld 2 true (.t 3)), Jt 12 10 (.call 136 [(.t 11)]), Jt 13 10 (.mkfn 137 [] [(.t 2)]), Jt 14 10 (.call 135 [(.t 12), (.t 13)]), Jt 15 10 (.not (.t 14)), Ipf 16 10 15, Im 4 16])
 .ret)⟩
theorem ck63:zh Tryz.prog 63 ir63=true:=by kernel_rfl
def ir64 : AFn := ⟨8, 1, [.t 2], .seq (.rg [Io 1 (.box (.t 0)), Imb 2 false])
 (.seq (.rg [Ilb 3 2 1, Io 4 (.call 136 [(.t 3)]), Io 5 (.mkfn 139 [] [(.t 1)]), Io 6 (.call 135 [(.t 4), (.t 5)]), Ing 7 6, Im 2 7])
 .ret)⟩
theorem ck64:zh Tryz.prog 64 ir64=true:=by kernel_rfl
def ir65 : AFn := ⟨7, 1, [.t 2], .seq (.rg [Ibx 1 0, Imb 2 false])
 (.seq (.rg [If 3 1 1, Il 4 1 3, Io 5 (.mkfn 141 [] [(.t 1)]), Io 6 (.call 133 [(.t 4), (.t 5)]), Im 2 6])
 .ret)⟩
theorem ck65:zh Tryz.prog 65 ir65=true:=by kernel_rfl
def ir66 : AFn := ⟨25, 1, [.t 2], .seq (.rg [Ibx 1 0, Imb 2 false])
 (.seq (.rg [Io 3 (.alloc [.sl .nil 1 []])])
 (.seq (.seq (.rg [If 6 0 1, Il 7 1 6, Iln 8 7, Imv 9 0])
 (.block 0 (.loop [1, 3, 7, 8, 9] (.seq (.rg [Ilt 10 9 8])
 (.seq (.cond (.t 10) .skip (.exit 0))
 (.seq (.block 1 (.seq (.rg [Iia 11 5 7 9, Ilb 12 5 11, Io 5 (.alloc [.int .i64 0, .str [], .sl .nil 10 [], .sl .nil 2 [], .sl .nil 7 []]), ⟨none, none, .st 5 (.t 5) (.t 12), []⟩])
 (.reg [0, 1, 2, 3, 4, 5, 6] [Il 13 1 3, Ilb 14 2 1, If 15 4 5, Il 16 1 15, ⟨some 17, none, .call 23 [(.t 14), (.t 16)], [0]⟩, Iap 18 1 16 13 17, ⟨none, none, .st 1 (.t 3) (.t 18), []⟩])))
 (.rg [Iai 19 9 1, Im 9 19])))))))
 (.seq (.rg [If 20 1 1, Il 21 1 20, Io 22 (.mkfn 142 [] [(.t 3)]), Io 23 (.call 133 [(.t 21), (.t 22)]), Ing 24 23, Im 2 24])
 .ret)))⟩
theorem ck66:zh Tryz.prog 66 ir66=true:=by kernel_rfl
def ir67 : AFn := ⟨44, 3, [.t 6], .seq (.rg [Ibx 3 0, Ibx 4 1, Imb 6 false])
 (.seq (.seq (.rg [If 11 0 4, Il 12 1 11, Iln 13 12, Imv 14 0])
 (.block 0 (.loop [2, 3, 4, 12, 13, 14] (.seq (.rg [Ilt 15 14 13])
 (.seq (.cond (.t 15) .skip (.exit 0))
 (.seq (.block 1 (.seq (.rg [Iia 16 5 12 14, Ilb 17 5 16, Io 8 (.alloc [.int .i64 0, .str [], .sl .nil 10 [], .sl .nil 2 [], .sl .nil 7 []]), ⟨none, none, .st 5 (.t 8) (.t 17), []⟩])
 (.seq (.reg [0, 1, 2, 4, 5, 6, 3, 7, 8] [Ilb 18 3 3, Ilb 19 3 3, Ilb 20 5 8, If 22 4 8, Il 23 1 22, Im 24 2, ⟨some 21, none, .call 86 [(.t 19), (.t 20)], [0, 4]⟩, Io 25 (.call 143 [(.t 18), (.t 21), (.t 23), (.t 24)]), Ing 26 25])
 (.cond (.t 26) (.seq (.rg [Imb 6 false])
 .ret) .skip))))
 (.rg [Iai 27 14 1, Im 14 27])))))))
 (.seq (.seq (.rg [If 28 1 4, Il 29 1 28, Iln 30 29, Imv 31 0])
 (.block 2 (.loop [2, 3, 29, 30, 31] (.seq (.rg [Ilt 32 31 30])
 (.seq (.cond (.t 32) .skip (.exit 2))
 (.seq (.block 3 (.seq (.rg [Iia 33 4 29 31, Ilb 34 4 33, Io 10 (.alloc [.str [], .str [], .sl .nil 2 [], .sl .nil 7 []]), ⟨none, none, .st 4 (.t 10) (.t 34), []⟩])
 (.seq (.rg [Ilb 35 3 3, If 36 1 10, Il 37 1 36, If 38 3 10, Il 39 1 38, Im 40 2, Io 41 (.call 143 [(.t 35), (.t 37), (.t 39), (.t 40)]), Ing 42 41])
 (.cond (.t 42) (.seq (.rg [Imb 6 false])
 .ret) .skip))))
 (.rg [Iai 43 31 1, Im 31 43])))))))
 (.seq (.rg [Imb 6 true])
 .ret)))⟩
theorem ck67:zh Tryz.prog 67 ir67=true:=by kernel_rfl
def ir68 : AFn := ⟨28, 5, [.t 7], .seq (.rg [Ibx 6 1, Imb 7 false])
 (.seq (.seq (.rg [Il 8 1 2])
 (.block 0 (.seq (.rg [Iei 10 8 9, Im 9 10])
 (.cond (.t 9) (.seq (.rg [Ilb 11 3 3, Im 12 0, Ilb 13 7 6, Io 14 (.call 69 [(.t 11), (.t 12), (.t 13)]), Im 7 14])
 .ret) (.seq (.rg [Iei 16 8 10, Im 15 16])
 (.cond (.t 15) (.seq (.rg [Ilb 17 3 3, Im 18 0, Ilb 19 7 6, Io 20 (.call 70 [(.t 17), (.t 18), (.t 19)]), Im 7 20])
 .ret) (.seq (.rg [Iei 22 8 11, Im 21 22])
 (.cond (.t 21) (.seq (.rg [Ilb 23 3 3, Ilb 24 2 4, Im 25 0, Ilb 26 7 6, Io 27 (.call 71 [(.t 23), (.t 24), (.t 25), (.t 26)]), Im 7 27])
 .ret) .skip))))))))
 (.seq (.rg [Imb 7 false])
 .ret))⟩
theorem ck68:zh Tryz.prog 68 ir68=true:=by kernel_rfl
def ir69 : AFn := ⟨23, 3, [.t 6], .seq (.rg [Ibx 3 0, Ibx 5 2, Imb 6 false])
 (.seq (.rg [Ilb 10 3 3, Im 11 1, If 12 2 5, Il 13 1 12, Io 14 (.call 144 [(.t 10), (.t 11), (.t 13)]), Im 9 14, Iex 15 9 0, Iex 16 9 1, Io 7 (.alloc [.str [], .sl .nil 10 [], .str [], .int .i64 0, .int .i64 0, .sl .nil 2 []]), ⟨none, none, .st 6 (.t 7) (.t 15), []⟩, Im 8 16])
 (.seq (.rg [If 17 0 5, Il 18 1 17, Io 19 (.bi .neq .i64 (.t 18) (.k (.int .i64 0))), Im 20 19, Fm 21 20 8, Ipt 22 20 21, Im 6 22])
 .ret))⟩
theorem ck69:zh Tryz.prog 69 ir69=true:=by kernel_rfl
def ir70 : AFn := ⟨35, 3, [.t 6], .seq (.rg [Ibx 3 0, Ibx 5 2, Imb 6 false])
 (.seq (.seq (.rg [If 8 0 5, Il 9 1 8, Io 10 (.bi .neq .i64 (.t 9) (.k (.int .i64 0)))])
 (.cond (.t 10) (.seq (.rg [Imb 6 true])
 .ret) .skip))
 (.seq (.rg [Ilb 11 3 3, Im 12 1, Ilb 13 7 5, Io 14 (.call 145 [(.t 11), (.t 12), (.t 13)]), Im 7 14])
 (.seq (.reg [0, 1, 2, 3, 4, 5, 6, 7, 8, 9, 10, 11, 12, 14, 15, 16, 17, 13, 18, 19, 20] [Ilb 15 3 3, Im 16 7, Io 17 (.call 114 [(.t 15), (.t 16)]), Ing 18 17, Im 19 18, Jt 20 19 (.ld 3 true (.t 3)), Jm 21 19 7, Jt 22 19 (.call 115 [(.t 20), (.t 21)]), Jt 23 19 (.not (.t 22)), Ipf 24 19 23, Im 25 24, Jf 26 25 (.ld 3 true (.t 3)), Fm 27 25 7, Fa 29 25 6 5, Fl 30 25 1 29, Jf 31 25 (.len (.t 30)), Jf 32 25 (.bi .gtr .i64 (.t 31) (.k (.int .i64 0))), ⟨some 28, (some (25, false)), .call 115 [(.t 26), (.t 27)], [14]⟩, Jf 33 25 (.bb false (.t 28) (.t 32)), Ipt 34 25 33, Im 6 34])
 .ret)))⟩
theorem ck70:zh Tryz.prog 70 ir70=true:=by kernel_rfl
def ir71 : AFn := ⟨42, 4, [.t 8], .seq (.rg [Ibx 4 0, Ibx 5 1, Ibx 7 3, Imb 8 false])
 (.seq (.rg [If 12 5 7, Il 13 1 12, Im 9 13])
 (.seq (.seq (.rg [If 14 0 7, Il 15 1 14])
 (.block 0 (.seq (.rg [Iei 17 15 2, Im 16 17])
 (.cond (.t 16) .skip (.seq (.rg [Iei 19 15 1, Im 18 19])
 (.cond (.t 18) (.seq (.rg [Ilb 21 2 5, If 22 2 7, Il 23 1 22, Io 24 (.call 8 [(.t 21), (.t 23)]), Im 20 24, Iex 25 20 0, Iex 26 20 1, Io 10 (.alloc [.str [], .str [], .sl .nil 2 [], .sl .nil 7 []]), ⟨none, none, .st 4 (.t 10) (.t 25), []⟩, Im 11 26])
 (.rg [If 27 1 10, Il 28 1 27, Im 9 28])) (.seq (.rg [Imb 8 true])
 .ret)))))))
 (.seq (.rg [If 29 0 7, Il 30 1 29, Iei 31 30 2, Im 32 31, Jm 33 32 9, Jt 34 32 (.bs .eql (.t 33) (.k (.str []))), Ipf 35 32 34, Im 36 35, Jf 37 36 (.ld 3 true (.t 4)), Fm 38 36 2, Fm 39 36 9, Jf 40 36 (.call 146 [(.t 37), (.t 38), (.t 39)]), Ipt 41 36 40, Im 8 41])
 .ret)))⟩
theorem ck71:zh Tryz.prog 71 ir71=true:=by kernel_rfl
def ir72 : AFn := ⟨19, 2, [.t 4], .seq (.rg [Ibx 2 0, Imb 4 false])
 (.seq (.seq (.rg [Ilb 7 2 2, Io 8 (.call 147 [(.t 7)]), Iln 9 8, Imv 10 0])
 (.block 0 (.loop [1, 8, 9, 10] (.seq (.rg [Ilt 11 10 9])
 (.seq (.cond (.t 11) .skip (.exit 0))
 (.seq (.block 1 (.seq (.rg [Iia 12 1 8 10, Il 13 1 12, Im 6 13])
 (.seq (.rg [Im 14 1, Im 15 6, Io 16 (.callv (.t 14) [(.t 15)]), Ing 17 16])
 (.cond (.t 17) (.seq (.rg [Imb 4 false])
 .ret) .skip))))
 (.rg [Iai 18 10 1, Im 10 18])))))))
 (.seq (.rg [Imb 4 true])
 .ret))⟩
theorem ck72:zh Tryz.prog 72 ir72=true:=by kernel_rfl
def ir73 : AFn := ⟨22, 1, [.t 2], .seq (.rg [Imb 2 false])
 (.seq (.seq (.rg [Im 7 0, Iln 8 7, Imv 9 0])
 (.block 0 (.loop [7, 8, 9] (.seq (.rg [Ilt 10 9 8])
 (.seq (.cond (.t 10) .skip (.exit 0))
 (.seq (.block 1 (.seq (.rg [Iia 11 2 7 9, Ilb 12 2 11, Io 4 (.alloc [.str [], .sl .nil 6 []]), ⟨none, none, .st 2 (.t 4) (.t 12), []⟩])
 (.seq (.rg [If 14 0 4, Il 15 1 14, Io 16 (.call 148 [(.t 15)]), Im 13 16, Iex 17 13 0, Iex 18 13 1, Io 5 (.alloc [.str [], .str [], .int .i64 0, .int .i64 0, .bool false, .int .i64 0, .int .i64 0, .str [], .sl .nil 5 [], .sl .nil 6 []]), ⟨none, none, .st 10 (.t 5) (.t 17), []⟩, Im 6 18])
 (.seq (.rg [Im 19 6, Ing 20 19])
 (.cond (.t 20) (.seq (.rg [Imb 2 false])
 .ret) .skip)))))
 (.rg [Iai 21 9 1, Im 9 21])))))))
 (.seq (.rg [Imb 2 true])
 .ret))⟩
theorem ck73:zh Tryz.prog 73 ir73=true:=by kernel_rfl
def ir74 : AFn := ⟨11, 3, [.t 6], .seq (.rg [Ibx 3 0, Ibx 4 1, Ibx 5 2, Imb 6 false])
 (.seq (.rg [Ilb 7 3 3, Ilb 8 2 4, Io 9 (.mkfn 149 [] [(.t 5)]), Io 10 (.call 67 [(.t 7), (.t 8), (.t 9)]), Im 6 10])
 .ret)⟩
theorem ck74:zh Tryz.prog 74 ir74=true:=by kernel_rfl
def ir75 : AFn := ⟨6, 1, [.t 2], .seq (.rg [Imb 2 false])
 (.seq (.rg [Im 3 0, Iln 4 3, Iei 5 4 0, Im 2 5])
 .ret)⟩
theorem ck75:zh Tryz.prog 75 ir75=true:=by kernel_rfl
def ir76 : AFn := ⟨31, 1, [.t 2], .seq (.rg [Imb 2 false])
 (.scope (.seq (.rg [Imb 3 true])
 (.seq .skip
 (.seq (.seq (.rg [Im 8 0, Iln 9 8, Imv 10 0])
 (.block 0 (.loop [0, 3, 8, 9, 10] (.seq (.rg [Ilt 11 10 9])
 (.seq (.cond (.t 11) .skip (.exit 0))
 (.seq (.block 1 (.seq (.rg [Im 12 10, Iia 13 2 8 10, Ilb 14 2 13, Io 5 (.alloc [.str [], .sl .nil 6 []]), Im 4 12, ⟨none, none, .st 2 (.t 5) (.t 14), []⟩])
 (.seq (.rg [Im 15 0, Im 16 4, Io 17 (.sll 2 (.t 15) none (some (.t 16)) none), Iln 18 17, Imv 19 0])
 (.block 2 (.loop [0, 3, 5, 8, 9, 10, 17, 18, 19] (.seq (.rg [Ilt 20 19 18])
 (.seq (.cond (.t 20) .skip (.exit 2))
 (.seq (.block 3 (.seq (.rg [Iia 21 2 17 19, Ilb 22 2 21, Io 7 (.alloc [.str [], .sl .nil 6 []]), ⟨none, none, .st 2 (.t 7) (.t 22), []⟩])
 (.seq (.rg [If 23 0 7, Il 24 1 23, If 25 0 5, Il 26 1 25, Io 27 (.bs .eql (.t 24) (.t 26))])
 (.cond (.t 27) (.seq (.rg [Imb 3 false])
 (.exit 0)) .skip))))
 (.rg [Iai 28 19 1, Im 19 28])))))))))
 (.rg [Iai 29 10 1, Im 10 29])))))))
 (.seq (.rg [Im 30 3, Im 2 30])
 .ret)))))⟩
theorem ck76:zh Tryz.prog 76 ir76=true:=by kernel_rfl
def ir77 : AFn := ⟨11, 3, [.t 6], .seq (.rg [Ibx 3 0, Ibx 4 1, Ibx 5 2, Imb 6 false])
 (.seq (.rg [Ilb 7 3 3, Ilb 8 2 4, Io 9 (.mkfn 150 [] [(.t 3), (.t 5)]), Io 10 (.call 67 [(.t 7), (.t 8), (.t 9)]), Im 6 10])
 .ret)⟩
theorem ck77:zh Tryz.prog 77 ir77=true:=by kernel_rfl
def ir78 : AFn := ⟨25, 2, [.t 4], .seq (.rg [Imb 4 false])
 (.seq (.seq (.rg [Im 9 1, Iln 10 9, Imv 11 0])
 (.block 0 (.loop [0, 9, 10, 11] (.seq (.rg [Ilt 12 11 10])
 (.seq (.cond (.t 12) .skip (.exit 0))
 (.seq (.block 1 (.seq (.rg [Iia 13 6 9 11, Ilb 14 6 13, Io 6 (.alloc [.str [], .int .i64 0, .int .i64 0, .str [], .sl .nil 5 [], .sl .nil 6 []]), ⟨none, none, .st 6 (.t 6) (.t 14), []⟩])
 (.seq (.rg [Im 16 0, If 17 0 6, Il 18 1 17, Io 19 (.call 152 [(.t 16), (.t 18)]), Im 15 19, Iex 20 15 0, Iex 21 15 1, Io 7 (.alloc [.str [], .str [], .int .i64 0, .int .i64 0, .bool false, .int .i64 0, .int .i64 0, .str [], .sl .nil 5 [], .sl .nil 6 []]), ⟨none, none, .st 10 (.t 7) (.t 20), []⟩, Im 8 21])
 (.seq (.rg [Im 22 8, Ing 23 22])
 (.cond (.t 23) (.seq (.rg [Imb 4 false])
 .ret) .skip)))))
 (.rg [Iai 24 11 1, Im 11 24])))))))
 (.seq (.rg [Imb 4 true])
 .ret))⟩
theorem ck78:zh Tryz.prog 78 ir78=true:=by kernel_rfl
def ir79 : AFn := ⟨7, 2, [.t 4], .seq (.rg [Imb 4 false])
 (.seq (.rg [Im 5 1, Io 6 (.call 153 [(.t 5)]), Im 4 6])
 .ret)⟩
theorem ck79:zh Tryz.prog 79 ir79=true:=by kernel_rfl
def ir80 : AFn := ⟨29, 2, [.t 4], .seq (.rg [Imb 4 false])
 (.scope (.seq .skip
 (.seq (.seq (.rg [Im 9 0, Iln 10 9, Imv 11 0])
 (.block 0 (.loop [1, 9, 10, 11] (.seq (.rg [Ilt 12 11 10])
 (.seq (.cond (.t 12) .skip (.exit 0))
 (.seq (.block 1 (.seq (.rg [Iia 13 10 9 11, Ilb 14 10 13, Io 6 (.alloc [.str [], .str [], .int .i64 0, .int .i64 0, .bool false, .int .i64 0, .int .i64 0, .str [], .sl .nil 5 [], .sl .nil 6 []]), ⟨none, none, .st 10 (.t 6) (.t 14), []⟩])
 (.seq (.seq (.rg [If 16 0 6, Il 17 1 16, Im 18 1, Io 19 (.call 154 [(.t 17), (.t 18)]), Im 15 19, Iex 20 15 0, Iex 21 15 1, Io 7 (.alloc [.int .i64 0, .int .i64 0, .str [], .sl .nil 5 [], .sl .nil 6 []]), ⟨none, none, .st 5 (.t 7) (.t 20), []⟩, Im 8 21])
 (.seq (.rg [Im 22 8, Im 23 22, Jf 24 23 (.ld 10 true (.t 6)), Jf 25 23 (.call 155 [(.t 24)]), Jf 26 23 (.not (.t 25)), Ipt 27 23 26])
 (.cond (.t 27) (.exit 1) .skip)))
 (.seq (.rg [Imb 4 false])
 .ret))))
 (.rg [Iai 28 11 1, Im 11 28])))))))
 (.seq (.rg [Imb 4 true])
 .ret))))⟩
theorem ck80:zh Tryz.prog 80 ir80=true:=by kernel_rfl
def ir81 : AFn := ⟨12, 4, [.t 5], .seq (.rg [Ibx 4 0, Imb 5 false])
 (.seq (.rg [Ilb 6 3 1, Ilb 7 2 2, Ilb 8 5 4, Il 9 1 3, Io 10 (.call 82 [(.t 6), (.t 7), (.t 8), (.t 9)]), Ing 11 10, Im 5 11])
 .ret)⟩
theorem ck81:zh Tryz.prog 81 ir81=true:=by kernel_rfl
def ir82 : AFn := ⟨40, 4, [.t 8], .seq (.rg [Ibx 4 0, Ibx 5 1, Ibx 6 2, Imb 8 false])
 (.seq (.seq (.rg [Im 10 3])
 (.block 0 (.seq (.rg [Iei 12 10 18, Im 11 12])
 (.cond (.t 11) (.seq (.rg [Ilb 13 5 6, Io 14 (.call 156 [(.t 13)]), Im 8 14])
 .ret) (.seq (.rg [Iei 16 10 19, Im 15 16])
 (.cond (.t 15) (.seq (.rg [If 17 2 6, Il 18 1 17, Io 19 (.mkfn 158 [] [(.t 4)]), Io 20 (.call 157 [(.t 18), (.t 19)]), Ing 21 20, Im 8 21])
 .ret) (.seq (.rg [Iei 23 10 20, Im 22 23])
 (.cond (.t 22) (.seq (.rg [Ilb 24 2 5, If 25 4 6, Il 26 1 25, Io 27 (.call 160 [(.t 24), (.t 26)]), Io 28 (.mkfn 161 [] [(.t 6)]), Io 29 (.call 99 [(.t 27), (.t 28)]), Ing 30 29, Im 8 30])
 .ret) .skip))))))))
 (.seq (.rg [Ilb 31 2 5, If 32 4 6, Il 33 1 32, Io 34 (.call 160 [(.t 31), (.t 33)]), Io 9 (.alloc [.sl .nil 1 []]), ⟨none, none, .st 1 (.t 9) (.t 34), []⟩])
 (.seq (.rg [If 35 2 6, Il 36 1 35, Io 37 (.mkfn 163 [] [(.t 9)]), Io 38 (.call 157 [(.t 36), (.t 37)]), Ing 39 38, Im 8 39])
 .ret)))⟩
theorem ck82:zh Tryz.prog 82 ir82=true:=by kernel_rfl
def ir83 : AFn := ⟨40, 2, [.t 4], .seq (.rg [Ibx 2 0, Ibx 3 1, Imb 4 false])
 (.seq (.seq (.rg [If 9 0 3, Il 10 1 9, Iln 11 10, Imv 12 0])
 (.block 0 (.loop [2, 3, 10, 11, 12] (.seq (.rg [Ilt 13 12 11])
 (.seq (.cond (.t 13) .skip (.exit 0))
 (.seq (.block 1 (.seq (.rg [Iia 14 5 10 12, Ilb 15 5 14, Io 6 (.alloc [.int .i64 0, .str [], .sl .nil 10 [], .sl .nil 2 [], .sl .nil 7 []]), ⟨none, none, .st 5 (.t 6) (.t 15), []⟩])
 (.seq (.rg [If 16 2 6, Il 17 1 16, Iln 18 17, Imv 19 0])
 (.block 2 (.loop [2, 3, 10, 11, 12, 17, 18, 19] (.seq (.rg [Ilt 20 19 18])
 (.seq (.cond (.t 20) .skip (.exit 2))
 (.seq (.block 3 (.seq (.rg [Iia 21 10 17 19, Ilb 22 10 21, Io 8 (.alloc [.str [], .str [], .int .i64 0, .int .i64 0, .bool false, .int .i64 0, .int .i64 0, .str [], .sl .nil 5 [], .sl .nil 6 []]), ⟨none, none, .st 10 (.t 8) (.t 22), []⟩])
 (.seq (.rg [If 23 4 8, Il 24 1 23, Im 25 24, Jt 26 25 (.ld 3 true (.t 2)), Ja 27 25 1 8, Jt 28 25 (.ld 3 true (.t 27)), Ja 29 25 5 8, Jt 30 25 (.ld 5 true (.t 29)), Jt 31 25 (.call 164 [(.t 26), (.t 28), (.t 30)]), Jt 32 25 (.not (.t 31)), Ipf 33 25 32])
 (.cond (.t 33) (.seq (.rg [Imb 4 false])
 .ret) .skip))))
 (.rg [Iai 34 19 1, Im 19 34])))))))))
 (.rg [Iai 35 12 1, Im 12 35])))))))
 (.seq (.rg [Ilb 36 3 2, Ilb 37 2 3, Io 38 (.mkfn 165 [] [(.t 2)]), Io 39 (.call 77 [(.t 36), (.t 37), (.t 38)]), Im 4 39])
 .ret))⟩
theorem ck83:zh Tryz.prog 83 ir83=true:=by kernel_rfl
def ir84 : AFn := ⟨49, 2, [.t 4], .seq (.rg [Ibx 2 0, Ibx 3 1, Imb 4 false])
 (.scope (.seq (.rg [Imb 5 true])
 (.seq .skip
 (.seq (.seq (.rg [If 12 0 3, Il 13 1 12, Iln 14 13, Imv 15 0])
 (.block 0 (.loop [2, 3, 5, 13, 14, 15] (.seq (.rg [Ilt 16 15 14])
 (.seq (.cond (.t 16) .skip (.exit 0))
 (.seq (.block 1 (.seq (.rg [Iia 17 5 13 15, Ilb 18 5 17, Io 7 (.alloc [.int .i64 0, .str [], .sl .nil 10 [], .sl .nil 2 [], .sl .nil 7 []]), ⟨none, none, .st 5 (.t 7) (.t 18), []⟩])
 (.seq (.rg [Ilb 19 3 2, Ilb 20 2 3, Ilb 21 5 7, Io 22 (.call 166 [(.t 19), (.t 20), (.t 21)]), Iln 23 22, Imv 24 0])
 (.block 2 (.loop [2, 3, 5, 7, 13, 14, 15, 22, 23, 24] (.seq (.rg [Ilt 25 24 23])
 (.seq (.cond (.t 25) .skip (.exit 2))
 (.seq (.block 3 (.seq (.rg [Iia 26 5 22 24, Ilb 27 5 26, Io 9 (.alloc [.str [], .str [], .int .i64 0, .int .i64 0, .bool false]), ⟨none, none, .st 5 (.t 9) (.t 27), []⟩])
 (.seq (.rg [Ilb 29 5 7, If 30 0 9, Il 31 1 30, Io 32 (.call 162 [(.t 29), (.t 31)]), Im 28 32, Iex 33 28 0, Iex 34 28 1, Io 10 (.alloc [.str [], .str [], .int .i64 0, .int .i64 0, .bool false, .int .i64 0, .int .i64 0, .str [], .sl .nil 5 [], .sl .nil 6 []]), ⟨none, none, .st 10 (.t 10) (.t 33), []⟩, Im 11 34])
 (.seq (.rg [Im 35 11, Im 36 35, Jt 37 36 (.ld 10 true (.t 10)), Ja 38 36 1 9, Jt 39 36 (.ld 3 true (.t 38)), Ja 40 36 4 9, Jl 41 36 1 40, Jt 42 36 (.call 167 [(.t 37), (.t 39), (.t 41)]), Ipf 43 36 42, Im 5 43])
 (.seq (.rg [Im 44 5, Ing 45 44])
 (.cond (.t 45) (.exit 0) .skip))))))
 (.rg [Iai 46 24 1, Im 24 46])))))))))
 (.rg [Iai 47 15 1, Im 15 47])))))))
 (.seq (.rg [Im 48 5, Im 4 48])
 .ret)))))⟩
theorem ck84:zh Tryz.prog 84 ir84=true:=by kernel_rfl
def ir85 : AFn := ⟨48, 3, [.t 6], .seq (.rg [Io 6 (.mv (.k (.sl .nil 10 [])))])
 (.seq (.rg [Io 7 (.mv (.k (.sl .nil 10 [])))])
 (.seq (.seq (.rg [Im 11 2, Iln 12 11, Imv 13 0])
 (.block 0 (.loop [0, 1, 7, 11, 12, 13] (.seq (.rg [Ilt 14 13 12])
 (.seq (.cond (.t 14) .skip (.exit 0))
 (.seq (.block 1 (.seq (.rg [Iia 15 7 11 13, Ilb 16 7 15, Io 9 (.alloc [.int .i64 0, .str [], .str [], .sl .nil 6 [], .sl .nil 2 [], .str [], .sl .nil 7 []]), ⟨none, none, .st 7 (.t 9) (.t 16), []⟩])
 (.seq (.rg [Im 17 0, Ink 18 17, If 19 3 18, Il 20 1 19, Iai 21 20 1, Ink 22 17, If 23 3 22, ⟨none, none, .st 1 (.t 23) (.t 21), []⟩])
 (.seq (.rg [Im 24 0, Ink 25 24, If 26 3 25, Il 27 1 26, Im 10 27])
 (.reg [0, 1, 2, 3, 4, 5, 6, 7, 8, 9, 10, 12, 13, 11, 14, 15, 16, 17, 18] [Im 28 7, Im 29 10, Ilb 30 7 9, Im 31 1, Im 32 0, Im 33 0, Ink 34 33, If 35 0 34, Ilb 36 3 35, Im 37 1, Ilb 38 7 9, If 40 6 9, Il 41 1 40, ⟨some 39, none, .call 145 [(.t 36), (.t 37), (.t 38)], [2, 12]⟩, ⟨some 42, none, .call 85 [(.t 32), (.t 39), (.t 41)], [2]⟩, Io 43 (.bld [.int .i64 0, .int .i64 0, .str [], .str [], .sl .nil 6 [], .sl .nil 2 [], .str [], .sl .nil 7 [], .str [], .sl .nil 10 []] [(0, 1, (.t 29)), (1, 7, (.t 30)), (8, 1, (.t 31)), (9, 1, (.t 42))]), Io 44 (.bls 10 1 [.int .i64 0, .int .i64 0, .str [], .str [], .sl .nil 6 [], .sl .nil 2 [], .str [], .sl .nil 7 [], .str [], .sl .nil 10 []] [(0, (.t 43))]), Iap 45 10 176 28 44, Im 7 45])))))
 (.rg [Iai 46 13 1, Im 13 46])))))))
 (.seq (.rg [Im 47 7, Im 6 47])
 .ret)))⟩
theorem ck85:zh Tryz.prog 85 ir85=true:=by kernel_rfl
def ir86 : AFn := ⟨12, 2, [.t 4], .seq (.rg [Ibx 2 0, Ibx 3 1, Io 4 (.mv (.k (.str [])))])
 (.seq (.seq (.rg [If 5 0 3, Il 6 1 5, Iei 7 6 1])
 (.cond (.t 7) (.seq (.rg [If 8 2 2, Il 9 1 8, Im 4 9])
 .ret) .skip))
 (.seq (.rg [If 10 1 2, Il 11 1 10, Im 4 11])
 .ret))⟩
theorem ck86:zh Tryz.prog 86 ir86=true:=by kernel_rfl
def ir87 : AFn := ⟨57, 2, [.t 4], .seq (.rg [Imb 4 false])
 (.seq (.rg [Im 12 0, Im 13 1, Io 14 (.mkm (.one .s)), Io 15 (.call 168 [(.t 12), (.t 13), (.t 14)]), Im 5 15])
 (.seq (.seq (.rg [Im 16 5, Iln 17 16, Imv 18 0])
 (.block 0 (.loop [0, 1, 5, 16, 17, 18] (.seq (.rg [Ilt 19 18 17])
 (.seq (.cond (.t 19) .skip (.exit 0))
 (.seq (.block 1 (.seq (.rg [Im 20 18, Iia 21 10 16 18, Ilb 22 10 21, Io 7 (.alloc [.int .i64 0, .int .i64 0, .str [], .str [], .sl .nil 6 [], .sl .nil 2 [], .str [], .sl .nil 7 [], .str [], .sl .nil 10 []]), Im 6 20, ⟨none, none, .st 10 (.t 7) (.t 22), []⟩])
 (.scope (.seq .skip
 (.seq (.rg [Im 23 5, Im 24 6, Io 25 (.sll 10 (.t 23) none (some (.t 24)) none), Iln 26 25, Imv 27 0])
 (.block 2 (.loop [0, 1, 5, 7, 16, 17, 18, 25, 26, 27] (.seq (.rg [Ilt 28 27 26])
 (.seq (.cond (.t 28) .skip (.exit 2))
 (.seq (.block 3 (.seq (.rg [Iia 29 10 25 27, Ilb 30 10 29, Io 9 (.alloc [.int .i64 0, .int .i64 0, .str [], .str [], .sl .nil 6 [], .sl .nil 2 [], .str [], .sl .nil 7 [], .str [], .sl .nil 10 []]), ⟨none, none, .st 10 (.t 9) (.t 30), []⟩])
 (.seq (.seq (.reg [0, 1, 3, 4, 2, 5, 6] [If 31 1 7, Ilb 32 7 31, If 34 1 9, Ilb 35 7 34, ⟨some 33, none, .call 169 [(.t 32)], [3]⟩, Io 36 (.call 169 [(.t 35)]), Io 37 (.bs .neq (.t 33) (.t 36))])
 (.cond (.t 37) (.exit 3) .skip))
 (.seq (.rg [Im 38 0, Ilb 39 10 9, Ilb 40 10 7, Io 41 (.call 170 [(.t 38), (.t 39), (.t 40)]), Ing 42 41])
 (.cond (.t 42) (.seq (.rg [Imb 4 false])
 .ret) .skip)))))
 (.rg [Iai 43 27 1, Im 27 43])))))))))))
 (.rg [Iai 44 18 1, Im 18 44])))))))
 (.seq (.seq (.rg [Im 45 1, Iln 46 45, Imv 47 0])
 (.block 4 (.loop [0, 45, 46, 47] (.seq (.rg [Ilt 48 47 46])
 (.seq (.cond (.t 48) .skip (.exit 4))
 (.seq (.block 5 (.seq (.rg [Iia 49 10 45 47, Ilb 50 10 49, Io 11 (.alloc [.int .i64 0, .int .i64 0, .str [], .str [], .sl .nil 6 [], .sl .nil 2 [], .str [], .sl .nil 7 [], .str [], .sl .nil 10 []]), ⟨none, none, .st 10 (.t 11) (.t 50), []⟩])
 (.seq (.rg [Im 51 0, If 52 9 11, Il 53 1 52, Io 54 (.call 87 [(.t 51), (.t 53)]), Ing 55 54])
 (.cond (.t 55) (.seq (.rg [Imb 4 false])
 .ret) .skip))))
 (.rg [Iai 56 47 1, Im 47 56])))))))
 (.seq (.rg [Imb 4 true])
 .ret))))⟩
theorem ck87:zh Tryz.prog 87 ir87=true:=by kernel_rfl
def ir88 : AFn := ⟨19, 2, [], .seq (.rg [Im 4 0, Im 5 1, Io 6 (.call 171 [(.t 5)]), Io 7 (.call 45 [(.t 4), (.t 6)])])
 (.rg [Im 8 0, Im 9 0, Ink 10 9, If 11 0 10, Il 12 1 11, Im 13 1, Io 14 (.bld [.int .i64 0, .str []] [(0, 1, (.k (.int .i64 2))), (1, 1, (.t 13))]), Io 15 (.bls 2 1 [.int .i64 0, .str []] [(0, (.t 14))]), Iap 16 2 24 12 15, Ink 17 8, If 18 0 17, ⟨none, none, .st 1 (.t 18) (.t 16), []⟩])⟩
theorem ck88:zh Tryz.prog 88 ir88=true:=by kernel_rfl
def ir89 : AFn := ⟨24, 2, [], .seq (.rg [Im 6 1, Iln 7 6, Imv 8 0])
 (.block 0 (.loop [0, 6, 7, 8] (.seq (.rg [Ilt 9 8 7])
 (.seq (.cond (.t 9) .skip (.exit 0))
 (.seq (.block 1 (.seq (.rg [Iia 10 1 6 8, Il 11 1 10, Im 5 11])
 (.rg [Im 12 0, Im 13 0, Ink 14 13, If 15 0 14, Il 16 1 15, Im 17 5, Io 18 (.bld [.int .i64 0, .str []] [(0, 1, (.k (.int .i64 1))), (1, 1, (.t 17))]), Io 19 (.bls 2 1 [.int .i64 0, .str []] [(0, (.t 18))]), Iap 20 2 24 16 19, Ink 21 12, If 22 0 21, ⟨none, none, .st 1 (.t 22) (.t 20), []⟩])))
 (.rg [Iai 23 8 1, Im 8 23]))))))⟩
theorem ck89:zh Tryz.prog 89 ir89=true:=by kernel_rfl
def ir90 : AFn := ⟨48, 2, [], .seq (.rg [Ibx 3 1])
 (.seq (.rg [Im 5 0, Ilb 6 3 3, Io 7 (.call 172 [(.t 6)]), Io 8 (.call 45 [(.t 5), (.t 7)])])
 (.seq (.seq (.rg [Im 9 0, Ink 10 9, If 11 1 10, Il 12 1 11, Ing 13 12])
 (.cond (.t 13) .ret .skip))
 (.seq (.seq (.rg [If 14 1 3, Il 15 1 14, Imv 16 0])
 (.block 0 (.loop [0, 3, 15, 16] (.seq (.rg [Ilt 17 16 15])
 (.seq (.cond (.t 17) .skip (.exit 0))
 (.seq (.block 1 (.rg [Im 18 0, Io 19 (.bls 1 1 [.str []] [(0, (.k (.str [91])))]), Io 20 (.call 89 [(.t 18), (.t 19)])]))
 (.rg [Iai 21 16 1, Im 16 21])))))))
 (.seq (.rg [Im 22 0, If 23 0 3, Il 24 1 23, Io 25 (.call 88 [(.t 22), (.t 24)])])
 (.seq (.rg [If 26 1 3, Il 27 1 26, Im 4 27])
 (.block 2 (.loop [0, 3, 4] (.seq (.seq (.rg [Im 28 4, Io 29 (.bi .geq .i64 (.t 28) (.k (.int .i64 0)))])
 (.cond (.t 29) .skip (.exit 2)))
 (.seq (.block 3 (.seq (.seq (.rg [Im 32 4, If 33 1 3, Il 34 1 33, Ilt 35 32 34])
 (.cond (.t 35) (.rg [Im 36 0, Io 37 (.bls 1 1 [.str []] [(0, (.k (.str [93])))]), Io 38 (.call 89 [(.t 36), (.t 37)])]) .skip))
 (.seq (.rg [If 39 2 3, Il 40 1 39, Im 41 4, Io 42 (.shf .shr (.t 40) (.t 41)), Io 43 (.bi .and .i64 (.t 42) (.k (.int .i64 1))), Iei 44 43 1])
 (.cond (.t 44) (.rg [Im 45 0, Io 46 (.bls 1 1 [.str []] [(0, (.k (.str [33])))]), Io 47 (.call 89 [(.t 45), (.t 46)])]) .skip))))
 (.rg [Im 30 4, Isi 31 30 1, Im 4 31]))))))))))⟩
theorem ck90:zh Tryz.prog 90 ir90=true:=by kernel_rfl
def ir91 : AFn := ⟨19, 3, [], .seq (.rg [Ibx 5 2])
 (.seq (.seq (.rg [Im 6 1, Ing 7 6])
 (.cond (.t 7) (.seq (.rg [Im 8 0, Ilb 9 5 5, Io 10 (.bld [.int .i64 0, .int .i64 0, .str [], .sl .nil 5 [], .sl .nil 6 []] []), Io 11 (.call 173 [(.t 9), (.t 10)]), Io 12 (.call 45 [(.t 8), (.t 11)])])
 .ret) .skip))
 (.seq (.rg [Im 13 0, Io 14 (.bls 1 1 [.str []] [(0, (.k (.str [61])))]), Io 15 (.call 89 [(.t 13), (.t 14)])])
 (.rg [Im 16 0, Ilb 17 5 5, Io 18 (.call 174 [(.t 16), (.t 17), (.k (.bool true))])])))⟩
theorem ck91:zh Tryz.prog 91 ir91=true:=by kernel_rfl
def ir92 : AFn := ⟨27, 3, [], .seq (.rg [Im 8 2, Iln 9 8, Imv 10 0])
 (.block 0 (.loop [0, 1, 8, 9, 10] (.seq (.rg [Ilt 11 10 9])
 (.seq (.cond (.t 11) .skip (.exit 0))
 (.seq (.block 1 (.seq (.rg [Iia 12 2 8 10, Ilb 13 2 12, Io 7 (.alloc [.str [], .sl .nil 6 []]), ⟨none, none, .st 2 (.t 7) (.t 13), []⟩])
 (.seq (.rg [Im 14 0, Io 15 (.bls 1 1 [.str []] [(0, (.k (.str [64])))]), Io 16 (.call 89 [(.t 14), (.t 15)])])
 (.seq (.rg [Im 17 0, If 18 0 7, Il 19 1 18, Io 20 (.call 88 [(.t 17), (.t 19)])])
 (.rg [Im 21 0, Im 22 1, If 23 1 7, Il 24 1 23, Io 25 (.call 175 [(.t 21), (.t 22), (.t 24)])])))))
 (.rg [Iai 26 10 1, Im 10 26]))))))⟩
theorem ck92:zh Tryz.prog 92 ir92=true:=by kernel_rfl
def ir93 : AFn := ⟨27, 2, [], .seq (.rg [Im 4 0, Io 5 (.bls 1 1 [.str []] [(0, (.k (.str [123])))]), Io 6 (.call 89 [(.t 4), (.t 5)])])
 (.seq (.rg [Im 7 0, Ink 8 7, If 9 2 8, Il 10 1 9, Iai 11 10 1, Ink 12 7, If 13 2 12, ⟨none, none, .st 1 (.t 13) (.t 11), []⟩])
 (.seq (.rg [Im 14 0, Im 15 1, Io 16 (.call 176 [(.t 14), (.t 15)])])
 (.seq (.rg [Im 17 0, Ink 18 17, If 19 2 18, Il 20 1 19, Isi 21 20 1, Ink 22 17, If 23 2 22, ⟨none, none, .st 1 (.t 23) (.t 21), []⟩])
 (.rg [Im 24 0, Io 25 (.bls 1 1 [.str []] [(0, (.k (.str [125])))]), Io 26 (.call 89 [(.t 24), (.t 25)])]))))⟩
theorem ck93:zh Tryz.prog 93 ir93=true:=by kernel_rfl
def ir94 : AFn := ⟨22, 2, [.t 4], .seq (.rg [Io 4 (.mv (.k (.sl .nil 1 [])))])
 (.seq (.rg [Io 5 (.mv (.k (.sl .nil 1 [])))])
 (.seq (.seq (.rg [Im 8 0, Iln 9 8, Imv 10 0])
 (.block 0 (.loop [1, 5, 8, 9, 10] (.seq (.rg [Ilt 11 10 9])
 (.seq (.cond (.t 11) .skip (.exit 0))
 (.seq (.block 1 (.seq (.rg [Iia 12 6 8 10, Ilb 13 6 12, Io 7 (.alloc [.int .i64 0, .str [], .sl .nil 1 [], .sl .nil 6 [], .sl .nil 1 [], .sl .nil 10 []]), ⟨none, none, .st 6 (.t 7) (.t 13), []⟩])
 (.rg [Im 14 5, Im 15 1, Ilb 16 6 7, Io 17 (.callv (.t 15) [(.t 16)]), Io 18 (.bls 1 1 [.str []] [(0, (.t 17))]), Iap 19 1 16 14 18, Im 5 19])))
 (.rg [Iai 20 10 1, Im 10 20])))))))
 (.seq (.rg [Im 21 5, Im 4 21])
 .ret)))⟩
theorem ck94:zh Tryz.prog 94 ir94=true:=by kernel_rfl
def ir95 : AFn := ⟨5, 1, [.t 2], .seq (.rg [Ibx 1 0, Io 2 (.mv (.k (.str [])))])
 (.seq (.rg [If 3 1 1, Il 4 1 3, Im 2 4])
 .ret)⟩
theorem ck95:zh Tryz.prog 95 ir95=true:=by kernel_rfl
def ir96 : AFn := ⟨11, 1, [.t 2], .seq (.rg [Ibx 1 0, Imb 2 false])
 (.seq (.rg [Ilb 6 3 1, Io 7 (.call 177 [(.t 6)]), Im 5 7, Iex 8 5 0, Iex 9 5 1, Im 3 8, Im 4 9])
 (.seq (.rg [Im 10 4, Im 2 10])
 .ret))⟩
theorem ck96:zh Tryz.prog 96 ir96=true:=by kernel_rfl
def ir97 : AFn := ⟨18, 1, [.t 2], .seq (.rg [Imb 2 false])
 (.seq (.seq (.rg [Im 5 0, Iln 6 5, Imv 7 0])
 (.block 0 (.loop [0, 5, 6, 7] (.seq (.rg [Ilt 8 7 6])
 (.seq (.cond (.t 8) .skip (.exit 0))
 (.seq (.block 1 (.seq (.rg [Im 9 7, Iia 10 1 5 7, Il 11 1 10, Im 3 9, Im 4 11])
 (.seq (.rg [Im 12 0, Im 13 3, Io 14 (.sll 1 (.t 12) none (some (.t 13)) none), Im 15 4, Io 16 (.call 24 [(.t 14), (.t 15)])])
 (.cond (.t 16) (.seq (.rg [Imb 2 false])
 .ret) .skip))))
 (.rg [Iai 17 7 1, Im 7 17])))))))
 (.seq (.rg [Imb 2 true])
 .ret))⟩
theorem ck97:zh Tryz.prog 97 ir97=true:=by kernel_rfl
def ir98 : AFn := ⟨6, 1, [.t 2], .seq (.rg [Imb 2 false])
 (.seq (.rg [Im 3 0, Io 4 (.call 99 [(.t 3), (.k (.clo 178 [] []))]), Ing 5 4, Im 2 5])
 .ret)⟩
theorem ck98:zh Tryz.prog 98 ir98=true:=by kernel_rfl
def ir99 : AFn := ⟨9, 2, [.t 4], .seq (.rg [Imb 4 false])
 (.seq (.rg [Im 5 0, Im 6 1, Io 7 (.call 180 [(.t 5), (.t 6)]), Io 8 (.bi .geq .i64 (.t 7) (.k (.int .i64 0))), Im 4 8])
 .ret)⟩
theorem ck99:zh Tryz.prog 99 ir99=true:=by kernel_rfl
def ir100 : AFn := ⟨8, 2, [.t 3], .seq (.rg [Imb 3 false])
 (.seq (.rg [Ilb 4 3 1, Im 5 0, Io 6 (.bls 1 1 [.int .i64 0] [(0, (.k (.int .i64 0)))]), Io 7 (.call 101 [(.t 4), (.t 5), (.t 6)]), Im 3 7])
 .ret)⟩
theorem ck100:zh Tryz.prog 100 ir100=true:=by kernel_rfl
def ir101 : AFn := ⟨22, 3, [.t 6], .seq (.rg [Ibx 3 0, Imb 6 false])
 (.seq (.rg [Ilb 10 3 3, Im 11 1, Io 12 (.call 118 [(.t 10), (.t 11)]), Im 9 12, Iex 13 9 0, Iex 14 9 1, Io 7 (.alloc [.int .i64 0, .str [], .sl .nil 1 [], .sl .nil 6 [], .sl .nil 1 [], .sl .nil 10 []]), ⟨none, none, .st 6 (.t 7) (.t 13), []⟩, Im 8 14])
 (.seq (.rg [Im 15 8, Im 16 15, Jm 17 16 2, Ja 18 16 0 7, Jl 19 16 1 18, Jt 20 16 (.call 181 [(.t 17), (.t 19)]), Ipf 21 16 20, Im 6 21])
 .ret))⟩
theorem ck101:zh Tryz.prog 101 ir101=true:=by kernel_rfl
def ir102 : AFn := ⟨9, 1, [.t 2], .seq (.rg [Imb 2 false])
 (.seq (.rg [Im 3 0, Io 4 (.call 97 [(.t 3)]), Im 5 4, Jm 6 5 0, Jt 7 5 (.call 98 [(.t 6)]), Ipf 8 5 7, Im 2 8])
 .ret)⟩
theorem ck102:zh Tryz.prog 102 ir102=true:=by kernel_rfl
def ir103 : AFn := ⟨10, 2, [.t 4], .seq (.rg [Ibx 2 0, Ibx 3 1, Imb 4 false])
 (.seq (.rg [If 5 0 2, Il 6 1 5, Io 7 (.mkfn 183 [] [(.t 3)]), Io 8 (.call 182 [(.t 6), (.t 7)]), Ing 9 8, Im 4 9])
 .ret)⟩
theorem ck103:zh Tryz.prog 103 ir103=true:=by kernel_rfl
def ir104 : AFn := ⟨33, 2, [.t 3], .seq (.rg [Ibx 2 0, Imb 3 false])
 (.seq (.reg [0, 1, 2, 3, 4, 5, 6, 7, 8, 9, 10, 11, 12, 13, 14, 15, 16, 17, 18, 19, 20, 21, 22, 23, 24, 25, 26, 27, 28, 29] [Il 4 1 1, If 5 3 2, Il 6 1 5, ⟨some 7, none, .call 105 [(.t 6), (.k (.clo 106 [] []))], [0]⟩, Io 8 (.callv (.t 4) [(.t 7)]), Im 9 8, Jl 10 9 1 1, Ja 11 9 5 2, Jl 12 9 1 11, ⟨some 13, (some (9, true)), .call 107 [(.t 12), (.k (.clo 108 [] []))], [6]⟩, Jt 14 9 (.callv (.t 10) [(.t 13)]), Ipf 15 9 14, Im 16 15, Ja 17 16 4 2, Jl 18 16 1 17, Jt 19 16 (.call 97 [(.t 18)]), Ipf 20 16 19, Im 21 20, Ja 22 21 2 2, Jl 23 21 1 22, Jt 24 21 (.call 97 [(.t 23)]), Ipf 25 21 24, Im 26 25, Ja 27 26 3 2, Jl 28 26 1 27, Jt 29 26 (.mkfn 110 [] [(.t 1)]), Jt 30 26 (.call 109 [(.t 28), (.t 29)]), Jt 31 26 (.not (.t 30)), Ipf 32 26 31, Im 3 32])
 .ret)⟩
theorem ck104:zh Tryz.prog 104 ir104=true:=by kernel_rfl
def ir105 : AFn := ⟨22, 2, [.t 4], .seq (.rg [Io 4 (.mv (.k (.sl .nil 1 [])))])
 (.seq (.rg [Io 5 (.mv (.k (.sl .nil 1 [])))])
 (.seq (.seq (.rg [Im 8 0, Iln 9 8, Imv 10 0])
 (.block 0 (.loop [1, 5, 8, 9, 10] (.seq (.rg [Ilt 11 10 9])
 (.seq (.cond (.t 11) .skip (.exit 0))
 (.seq (.block 1 (.seq (.rg [Iia 12 6 8 10, Ilb 13 6 12, Io 7 (.alloc [.str [], .sl .nil 10 [], .str [], .int .i64 0, .int .i64 0, .sl .nil 2 []]), ⟨none, none, .st 6 (.t 7) (.t 13), []⟩])
 (.rg [Im 14 5, Im 15 1, Ilb 16 6 7, Io 17 (.callv (.t 15) [(.t 16)]), Io 18 (.bls 1 1 [.str []] [(0, (.t 17))]), Iap 19 1 16 14 18, Im 5 19])))
 (.rg [Iai 20 10 1, Im 10 20])))))))
 (.seq (.rg [Im 21 5, Im 4 21])
 .ret)))⟩
theorem ck105:zh Tryz.prog 105 ir105=true:=by kernel_rfl
def ir106 : AFn := ⟨5, 1, [.t 2], .seq (.rg [Ibx 1 0, Io 2 (.mv (.k (.str [])))])
 (.seq (.rg [If 3 0 1, Il 4 1 3, Im 2 4])
 .ret)⟩
theorem ck106:zh Tryz.prog 106 ir106=true:=by kernel_rfl
def ir107 : AFn := ⟨22, 2, [.t 4], .seq (.rg [Io 4 (.mv (.k (.sl .nil 1 [])))])
 (.seq (.rg [Io 5 (.mv (.k (.sl .nil 1 [])))])
 (.seq (.seq (.rg [Im 8 0, Iln 9 8, Imv 10 0])
 (.block 0 (.loop [1, 5, 8, 9, 10] (.seq (.rg [Ilt 11 10 9])
 (.seq (.cond (.t 11) .skip (.exit 0))
 (.seq (.block 1 (.seq (.rg [Iia 12 10 8 10, Ilb 13 10 12, Io 7 (.alloc [.str [], .str [], .int .i64 0, .int .i64 0, .bool false, .int .i64 0, .int .i64 0, .str [], .sl .nil 5 [], .sl .nil 6 []]), ⟨none, none, .st 10 (.t 7) (.t 13), []⟩])
 (.rg [Im 14 5, Im 15 1, Ilb 16 10 7, Io 17 (.callv (.t 15) [(.t 16)]), Io 18 (.bls 1 1 [.str []] [(0, (.t 17))]), Iap 19 1 16 14 18, Im 5 19])))
 (.rg [Iai 20 10 1, Im 10 20])))))))
 (.seq (.rg [Im 21 5, Im 4 21])
 .ret)))⟩
theorem ck107:zh Tryz.prog 107 ir107=true:=by kernel_rfl
def ir108 : AFn := ⟨5, 1, [.t 2], .seq (.rg [Ibx 1 0, Io 2 (.mv (.k (.str [])))])
 (.seq (.rg [If 3 0 1, Il 4 1 3, Im 2 4])
 .ret)⟩
theorem ck108:zh Tryz.prog 108 ir108=true:=by kernel_rfl
def ir109 : AFn := ⟨9, 2, [.t 4], .seq (.rg [Imb 4 false])
 (.seq (.rg [Im 5 0, Im 6 1, Io 7 (.call 184 [(.t 5), (.t 6)]), Io 8 (.bi .geq .i64 (.t 7) (.k (.int .i64 0))), Im 4 8])
 .ret)⟩
theorem ck109:zh Tryz.prog 109 ir109=true:=by kernel_rfl
def ir110 : AFn := ⟨10, 2, [.t 3], .seq (.rg [Ibx 2 0, Imb 3 false])
 (.seq (.reg [0, 1, 2, 3, 4, 5, 6] [Il 4 1 1, If 5 1 2, Il 6 1 5, ⟨some 7, none, .call 107 [(.t 6), (.k (.clo 108 [] []))], [0]⟩, Io 8 (.callv (.t 4) [(.t 7)]), Ing 9 8, Im 3 9])
 .ret)⟩
theorem ck110:zh Tryz.prog 110 ir110=true:=by kernel_rfl
def ir111 : AFn := ⟨15, 2, [.t 3], .seq (.rg [Ibx 2 0, Imb 3 false])
 (.seq (.rg [Ilb 4 3 1, If 5 5 2, Il 6 1 5, Io 7 (.call 112 [(.t 4), (.t 6)]), Im 8 7, Ja 9 8 3 2, Jl 10 8 1 9, Jt 11 8 (.mkfn 113 [] [(.t 1)]), Jt 12 8 (.call 109 [(.t 10), (.t 11)]), Jt 13 8 (.not (.t 12)), Ipf 14 8 13, Im 3 14])
 .ret)⟩
theorem ck111:zh Tryz.prog 111 ir111=true:=by kernel_rfl
def ir112 : AFn := ⟨9, 2, [.t 4], .seq (.rg [Ibx 2 0, Imb 4 false])
 (.seq (.rg [Im 5 1, Io 6 (.mkfn 185 [] [(.t 2)]), Io 7 (.call 129 [(.t 5), (.t 6)]), Ing 8 7, Im 4 8])
 .ret)⟩
theorem ck112:zh Tryz.prog 112 ir112=true:=by kernel_rfl
def ir113 : AFn := ⟨25, 2, [.t 3], .seq (.rg [Ibx 2 0, Imb 3 false])
 (.seq (.rg [Ilb 4 3 1, If 5 2 2, If 6 0 5, Il 7 1 6, Io 8 (.call 114 [(.t 4), (.t 7)]), Ing 9 8, Im 10 9, Jt 11 10 (.ld 3 true (.t 1)), Ja 12 10 2 2, Ja 13 10 0 12, Jl 14 10 1 13, Jt 15 10 (.call 115 [(.t 11), (.t 14)]), Jt 16 10 (.not (.t 15)), Ipf 17 10 16, Im 18 17, Jf 19 18 (.ld 3 true (.t 1)), Fa 20 18 1 2, Fl 21 18 1 20, Jf 22 18 (.call 112 [(.t 19), (.t 21)]), Jf 23 18 (.not (.t 22)), Ipt 24 18 23, Im 3 24])
 .ret)⟩
theorem ck113:zh Tryz.prog 113 ir113=true:=by kernel_rfl
def ir114 : AFn := ⟨9, 2, [.t 4], .seq (.rg [Ibx 2 0, Imb 4 false])
 (.seq (.rg [Ilb 5 3 2, Im 6 1, Io 7 (.bls 1 2 [.int .i64 0] [(0, (.k (.int .i64 0))), (1, (.k (.int .i64 4)))]), Io 8 (.call 101 [(.t 5), (.t 6), (.t 7)]), Im 4 8])
 .ret)⟩
theorem ck114:zh Tryz.prog 114 ir114=true:=by kernel_rfl
def ir115 : AFn := ⟨9, 2, [.t 4], .seq (.rg [Ibx 2 0, Imb 4 false])
 (.seq (.rg [Ilb 5 3 2, Im 6 1, Io 7 (.bls 1 3 [.int .i64 0] [(0, (.k (.int .i64 1))), (1, (.k (.int .i64 2))), (2, (.k (.int .i64 3)))]), Io 8 (.call 101 [(.t 5), (.t 6), (.t 7)]), Im 4 8])
 .ret)⟩
theorem ck115:zh Tryz.prog 115 ir115=true:=by kernel_rfl
def ir116 : AFn := ⟨9, 2, [.t 3], .seq (.rg [Io 2 (.box (.t 0)), Imb 3 false])
 (.seq (.rg [If 4 2 2, Il 5 1 4, Io 6 (.mkfn 117 [] [(.t 1), (.t 2)]), Io 7 (.call 99 [(.t 5), (.t 6)]), Ing 8 7, Im 3 8])
 .ret)⟩
theorem ck116:zh Tryz.prog 116 ir116=true:=by kernel_rfl
def ir117 : AFn := ⟨32, 3, [.t 4], .seq (.rg [Imb 4 false])
 (.seq (.rg [Ilb 8 3 1, Im 9 0, Io 10 (.call 118 [(.t 8), (.t 9)]), Im 7 10, Iex 11 7 0, Iex 12 7 1, Io 5 (.alloc [.int .i64 0, .str [], .sl .nil 1 [], .sl .nil 6 [], .sl .nil 1 [], .sl .nil 10 []]), ⟨none, none, .st 6 (.t 5) (.t 11), []⟩, Im 6 12])
 (.seq (.rg [Im 13 6, Ing 14 13, Im 15 14, Fa 16 15 0 5, Fl 17 15 1 16, Jf 18 15 (.bi .neq .i64 (.t 17) (.k (.int .i64 2))), Ipt 19 15 18, Im 20 19, Fm 21 20 0, Fa 22 20 1 2, Fl 23 20 1 22, Jf 24 20 (.bs .eql (.t 21) (.t 23)), Ipt 25 20 24, Im 26 25, Fa 27 26 2 5, Fl 28 26 1 27, Jf 29 26 (.mkfn 119 [] [(.t 2)]), Jf 30 26 (.call 99 [(.t 28), (.t 29)]), Ipt 31 26 30, Im 4 31])
 .ret))⟩
theorem ck117:zh Tryz.prog 117 ir117=true:=by kernel_rfl
def ir118 : AFn := ⟨26, 2, [.c 4 6 true, .t 5], .seq (.rg [Ibx 2 0, Io 4 (.alloc [.int .i64 0, .str [], .sl .nil 1 [], .sl .nil 6 [], .sl .nil 1 [], .sl .nil 10 []]), Imb 5 false])
 (.seq (.seq (.rg [Im 8 1, Io 9 (.call 186 [(.t 8)])])
 (.cond (.t 9) (.seq (.rg [Im 10 1, Io 11 (.bld [.int .i64 0, .str [], .sl .nil 1 [], .sl .nil 6 [], .sl .nil 1 [], .sl .nil 10 []] [(0, 1, (.k (.int .i64 0))), (1, 1, (.t 10))]), ⟨none, none, .st 6 (.t 4) (.t 11), []⟩, Imb 5 true])
 .ret) .skip))
 (.seq (.seq (.rg [If 12 0 2, Il 13 1 12, Iln 14 13, Imv 15 0])
 (.block 0 (.loop [1, 4, 13, 14, 15] (.seq (.rg [Ilt 16 15 14])
 (.seq (.cond (.t 16) .skip (.exit 0))
 (.seq (.block 1 (.seq (.rg [Iia 17 6 13 15, Ilb 18 6 17, Io 7 (.alloc [.int .i64 0, .str [], .sl .nil 1 [], .sl .nil 6 [], .sl .nil 1 [], .sl .nil 10 []]), ⟨none, none, .st 6 (.t 7) (.t 18), []⟩])
 (.seq (.rg [If 19 1 7, Il 20 1 19, Im 21 1, Io 22 (.bs .eql (.t 20) (.t 21))])
 (.cond (.t 22) (.seq (.rg [Ilb 23 6 7, ⟨none, none, .st 6 (.t 4) (.t 23), []⟩, Imb 5 true])
 .ret) .skip))))
 (.rg [Iai 24 15 1, Im 15 24])))))))
 (.seq (.rg [Io 25 (.bld [.int .i64 0, .str [], .sl .nil 1 [], .sl .nil 6 [], .sl .nil 1 [], .sl .nil 10 []] []), ⟨none, none, .st 6 (.t 4) (.t 25), []⟩, Imb 5 false])
 .ret)))⟩
theorem ck118:zh Tryz.prog 118 ir118=true:=by kernel_rfl
def ir119 : AFn := ⟨9, 2, [.t 3], .seq (.rg [Imb 3 false])
 (.seq (.rg [If 4 2 1, Il 5 1 4, Im 6 0, Io 7 (.call 24 [(.t 5), (.t 6)]), Ing 8 7, Im 3 8])
 .ret)⟩
theorem ck119:zh Tryz.prog 119 ir119=true:=by kernel_rfl
def ir120 : AFn := ⟨9, 2, [.t 3], .seq (.rg [Ibx 2 0, Imb 3 false])
 (.seq (.rg [If 4 2 2, Il 5 1 4, Io 6 (.mkfn 121 [] [(.t 1), (.t 2)]), Io 7 (.call 99 [(.t 5), (.t 6)]), Ing 8 7, Im 3 8])
 .ret)⟩
theorem ck120:zh Tryz.prog 120 ir120=true:=by kernel_rfl
def ir121 : AFn := ⟨10, 3, [.t 4], .seq (.rg [Imb 4 false])
 (.seq (.rg [Ilb 5 3 1, Ilb 6 6 2, Im 7 0, Io 8 (.call 122 [(.t 5), (.t 6), (.t 7)]), Ing 9 8, Im 4 9])
 .ret)⟩
theorem ck121:zh Tryz.prog 121 ir121=true:=by kernel_rfl
def ir122 : AFn := ⟨55, 3, [.t 6], .seq (.rg [Ibx 3 0, Ibx 4 1, Imb 6 false])
 (.seq (.rg [Ilb 13 3 3, Im 14 2, Io 15 (.call 118 [(.t 13), (.t 14)]), Im 12 15, Iex 16 12 0, Iex 17 12 1, Io 7 (.alloc [.int .i64 0, .str [], .sl .nil 1 [], .sl .nil 6 [], .sl .nil 1 [], .sl .nil 10 []]), ⟨none, none, .st 6 (.t 7) (.t 16), []⟩, Im 8 17])
 (.seq (.seq (.rg [If 18 3 7, Il 19 1 18, Iln 20 19, Imv 21 0])
 (.block 0 (.loop [3, 4, 19, 20, 21] (.seq (.rg [Ilt 22 21 20])
 (.seq (.cond (.t 22) .skip (.exit 0))
 (.seq (.block 1 (.seq (.rg [Iia 23 6 19 21, Ilb 24 6 23, Io 10 (.alloc [.str [], .sl .nil 10 [], .str [], .int .i64 0, .int .i64 0, .sl .nil 2 []]), ⟨none, none, .st 6 (.t 10) (.t 24), []⟩])
 (.seq (.rg [If 25 3 4, Il 26 1 25, Io 27 (.mkfn 187 [] [(.t 10)]), Io 28 (.call 184 [(.t 26), (.t 27)]), Im 11 28])
 (.seq (.reg [0, 1, 2, 3, 4, 5, 6, 7, 8, 9, 10, 11, 12, 13, 14, 15, 16, 17, 18, 19, 20, 21, 22, 23, 24] [Im 29 11, Io 30 (.bi .lss .i64 (.t 29) (.k (.int .i64 0))), Im 31 30, Jf 32 31 (.ld 3 true (.t 3)), Fa 33 31 3 4, Fl 34 31 1 33, Fm 35 31 11, Jf 36 31 (.ia 6 (.t 34) (.t 35)), Fa 37 31 2 36, Jf 38 31 (.ld 3 true (.t 37)), Fa 39 31 2 10, Jf 40 31 (.ld 3 true (.t 39)), Jf 41 31 (.call 188 [(.t 32), (.t 38), (.t 40)]), Jf 42 31 (.not (.t 41)), Ipt 43 31 42, Im 44 43, Fa 45 44 3 4, Fl 46 44 1 45, Fm 47 44 11, Jf 48 44 (.ia 6 (.t 46) (.t 47)), Jf 49 44 (.ld 6 true (.t 48)), Jf 50 44 (.ld 6 true (.t 10)), Jf 51 44 (.call 189 [(.t 49), (.t 50)]), Jf 52 44 (.not (.t 51)), Ipt 53 44 52])
 (.cond (.t 53) (.seq (.rg [Imb 6 false])
 .ret) .skip)))))
 (.rg [Iai 54 21 1, Im 21 54])))))))
 (.seq (.rg [Imb 6 true])
 .ret)))⟩
theorem ck122:zh Tryz.prog 122 ir122=true:=by kernel_rfl
def ir123 : AFn := ⟨14, 2, [.t 3], .seq (.rg [Ibx 2 0, Imb 3 false])
 (.seq (.rg [If 4 0 2, Il 5 1 4, Io 6 (.bi .neq .i64 (.t 5) (.k (.int .i64 3))), Im 7 6, Fa 8 7 4 2, Fl 9 7 1 8, Jf 10 7 (.mkfn 124 [] [(.t 1)]), Jf 11 7 (.call 99 [(.t 9), (.t 10)]), Jf 12 7 (.not (.t 11)), Ipt 13 7 12, Im 3 13])
 .ret)⟩
theorem ck123:zh Tryz.prog 123 ir123=true:=by kernel_rfl
def ir124 : AFn := ⟨9, 2, [.t 3], .seq (.rg [Imb 3 false])
 (.seq (.rg [Ilb 4 3 1, Im 5 0, Io 6 (.bls 1 1 [.int .i64 0] [(0, (.k (.int .i64 1)))]), Io 7 (.call 101 [(.t 4), (.t 5), (.t 6)]), Ing 8 7, Im 3 8])
 .ret)⟩
theorem ck124:zh Tryz.prog 124 ir124=true:=by kernel_rfl
def ir125 : AFn := ⟨14, 2, [.t 3], .seq (.rg [Ibx 2 0, Imb 3 false])
 (.seq (.rg [If 4 0 2, Il 5 1 4, Io 6 (.bi .neq .i64 (.t 5) (.k (.int .i64 5))), Im 7 6, Jf 8 7 (.ld 3 true (.t 1)), Fa 9 7 1 2, Fl 10 7 1 9, Jf 11 7 (.call 126 [(.t 8), (.t 10)]), Jf 12 7 (.not (.t 11)), Ipt 13 7 12, Im 3 13])
 .ret)⟩
theorem ck125:zh Tryz.prog 125 ir125=true:=by kernel_rfl
def ir126 : AFn := ⟨44, 2, [.t 4], .seq (.rg [Ibx 2 0, Imb 4 false])
 (.scope (.seq (.rg [Ilb 9 3 2, Im 10 1, Io 11 (.call 190 [(.t 9), (.t 10)]), Im 5 11])
 (.seq .skip
 (.seq (.seq (.rg [Imv 6 0])
 (.block 0 (.loop [1, 2, 5, 6] (.seq (.seq (.rg [Im 12 6, Im 13 5, Iln 14 13, Ilt 15 12 14])
 (.cond (.t 15) .skip (.exit 0)))
 (.seq (.block 1 (.seq (.seq (.rg [Im 18 5, Im 19 6, Iia 20 1 18 19, Il 21 1 20, Im 22 1, Io 23 (.bs .eql (.t 21) (.t 22))])
 (.cond (.t 23) (.seq (.rg [Imb 4 true])
 .ret) .skip))
 (.seq (.seq (.reg [0, 1, 2, 3, 4, 7, 5, 6] [Ilb 24 3 2, Im 25 5, Im 26 6, Iia 27 1 25 26, Il 28 1 27, Imv 31 0, Io 29 (.call 190 [(.t 24), (.t 28)]), Iln 30 29])
 (.block 2 (.loop [1, 2, 5, 6, 29, 30, 31] (.seq (.rg [Ilt 32 31 30])
 (.seq (.cond (.t 32) .skip (.exit 2))
 (.seq (.block 3 (.seq (.rg [Iia 33 1 29 31, Il 34 1 33, Im 8 34])
 (.seq (.rg [Im 35 5, Im 36 8, Io 37 (.call 24 [(.t 35), (.t 36)]), Ing 38 37])
 (.cond (.t 38) (.rg [Im 39 5, Im 40 8, Io 41 (.bls 1 1 [.str []] [(0, (.t 40))]), Iap 42 1 16 39 41, Im 5 42]) .skip))))
 (.rg [Iai 43 31 1, Im 31 43])))))))
 (.exit 1))))
 (.rg [Im 16 6, Iai 17 16 1, Im 6 17]))))))
 (.seq (.rg [Imb 4 false])
 .ret)))))⟩
theorem ck126:zh Tryz.prog 126 ir126=true:=by kernel_rfl
def ir127 : AFn := ⟨22, 2, [.t 3], .seq (.rg [Ibx 2 0, Imb 3 false])
 (.seq (.rg [Ilb 4 3 1, If 5 5 2, Il 6 1 5, Io 7 (.call 128 [(.t 4), (.t 6)]), Im 8 7, Ja 9 8 5 2, Jl 10 8 1 9, Jt 11 8 (.mkfn 130 [] [(.t 1)]), Jt 12 8 (.call 129 [(.t 10), (.t 11)]), Jt 13 8 (.not (.t 12)), Ipf 14 8 13, Im 15 14, Ja 16 15 3 2, Jl 17 15 1 16, Jt 18 15 (.mkfn 131 [] [(.t 1)]), Jt 19 15 (.call 109 [(.t 17), (.t 18)]), Jt 20 15 (.not (.t 19)), Ipf 21 15 20, Im 3 21])
 .ret)⟩
theorem ck127:zh Tryz.prog 127 ir127=true:=by kernel_rfl
def ir128 : AFn := ⟨9, 2, [.t 4], .seq (.rg [Ibx 2 0, Imb 4 false])
 (.seq (.rg [Im 5 1, Io 6 (.mkfn 191 [] [(.t 2)]), Io 7 (.call 129 [(.t 5), (.t 6)]), Ing 8 7, Im 4 8])
 .ret)⟩
theorem ck128:zh Tryz.prog 128 ir128=true:=by kernel_rfl
def ir129 : AFn := ⟨9, 2, [.t 4], .seq (.rg [Imb 4 false])
 (.seq (.rg [Im 5 0, Im 6 1, Io 7 (.call 192 [(.t 5), (.t 6)]), Io 8 (.bi .geq .i64 (.t 7) (.k (.int .i64 0))), Im 4 8])
 .ret)⟩
theorem ck129:zh Tryz.prog 129 ir129=true:=by kernel_rfl
def ir130 : AFn := ⟨14, 2, [.t 3], .seq (.rg [Ibx 2 0, Imb 3 false])
 (.seq (.rg [If 4 4 2, Il 5 1 4, Im 6 5, Jt 7 6 (.ld 3 true (.t 1)), Ja 8 6 1 2, Ja 9 6 0 8, Jl 10 6 1 9, Jt 11 6 (.call 114 [(.t 7), (.t 10)]), Jt 12 6 (.not (.t 11)), Ipf 13 6 12, Im 3 13])
 .ret)⟩
theorem ck130:zh Tryz.prog 130 ir130=true:=by kernel_rfl
def ir131 : AFn := ⟨9, 2, [.t 3], .seq (.rg [Ibx 2 0, Imb 3 false])
 (.seq (.rg [Ilb 4 3 1, If 5 1 2, Il 6 1 5, Io 7 (.call 128 [(.t 4), (.t 6)]), Ing 8 7, Im 3 8])
 .ret)⟩
theorem ck131:zh Tryz.prog 131 ir131=true:=by kernel_rfl
def ir132 : AFn := ⟨19, 2, [.t 4], .seq (.rg [Imv 4 0])
 (.seq (.seq (.rg [Im 6 0, Iln 7 6, Imv 8 0])
 (.block 0 (.loop [0, 1, 7, 8] (.seq (.rg [Ilt 9 8 7])
 (.seq (.cond (.t 9) .skip (.exit 0))
 (.seq (.block 1 (.seq (.rg [Im 10 8, Im 5 10])
 (.seq (.rg [Im 11 1, Im 12 0, Im 13 5, Iia 14 5 12 13, Ilb 15 5 14, Io 16 (.callv (.t 11) [(.t 15)])])
 (.cond (.t 16) (.seq (.rg [Im 17 5, Im 4 17])
 .ret) .skip))))
 (.rg [Iai 18 8 1, Im 8 18])))))))
 (.seq (.rg [Io 4 (.mv (.k (.int .i64 (-1))))])
 .ret))⟩
theorem ck132:zh Tryz.prog 132 ir132=true:=by kernel_rfl
def ir133 : AFn := ⟨9, 2, [.t 4], .seq (.rg [Imb 4 false])
 (.seq (.rg [Im 5 0, Im 6 1, Io 7 (.call 20 [(.t 5), (.t 6)]), Io 8 (.bi .geq .i64 (.t 7) (.k (.int .i64 0))), Im 4 8])
 .ret)⟩
theorem ck133:zh Tryz.prog 133 ir133=true:=by kernel_rfl
def ir134 : AFn := ⟨9, 2, [.t 3], .seq (.rg [Ibx 2 0, Imb 3 false])
 (.seq (.rg [Ilb 4 3 1, If 5 1 2, Il 6 1 5, Io 7 (.call 115 [(.t 4), (.t 6)]), Ing 8 7, Im 3 8])
 .ret)⟩
theorem ck134:zh Tryz.prog 134 ir134=true:=by kernel_rfl
def ir135 : AFn := ⟨9, 2, [.t 4], .seq (.rg [Imb 4 false])
 (.seq (.rg [Im 5 0, Im 6 1, Io 7 (.call 193 [(.t 5), (.t 6)]), Io 8 (.bi .geq .i64 (.t 7) (.k (.int .i64 0))), Im 4 8])
 .ret)⟩
theorem ck135:zh Tryz.prog 135 ir135=true:=by kernel_rfl
def ir136 : AFn := ⟨35, 1, [.t 2], .seq (.rg [Ibx 1 0, Io 2 (.mv (.k (.sl .nil 1 [])))])
 (.seq (.rg [Io 3 (.mv (.k (.sl .nil 1 [])))])
 (.seq (.seq (.rg [If 8 0 1, Il 9 1 8, Iln 10 9, Imv 11 0])
 (.block 0 (.loop [1, 3, 9, 10, 11] (.seq (.rg [Ilt 12 11 10])
 (.seq (.cond (.t 12) .skip (.exit 0))
 (.seq (.block 1 (.seq (.rg [Iia 13 5 9 11, Ilb 14 5 13, Io 5 (.alloc [.int .i64 0, .str [], .sl .nil 10 [], .sl .nil 2 [], .sl .nil 7 []]), ⟨none, none, .st 5 (.t 5) (.t 14), []⟩])
 (.rg [Im 15 3, If 16 4 5, Il 17 1 16, Io 18 (.bls 1 1 [.sl .nil 7 []] [(0, (.t 17))]), Iap 19 1 24 15 18, Im 3 19])))
 (.rg [Iai 20 11 1, Im 11 20])))))))
 (.seq (.seq (.rg [If 21 1 1, Il 22 1 21, Iln 23 22, Imv 24 0])
 (.block 2 (.loop [3, 22, 23, 24] (.seq (.rg [Ilt 25 24 23])
 (.seq (.cond (.t 25) .skip (.exit 2))
 (.seq (.block 3 (.seq (.rg [Iia 26 4 22 24, Ilb 27 4 26, Io 7 (.alloc [.str [], .str [], .sl .nil 2 [], .sl .nil 7 []]), ⟨none, none, .st 4 (.t 7) (.t 27), []⟩])
 (.rg [Im 28 3, If 29 3 7, Il 30 1 29, Io 31 (.bls 1 1 [.sl .nil 7 []] [(0, (.t 30))]), Iap 32 1 24 28 31, Im 3 32])))
 (.rg [Iai 33 24 1, Im 24 33])))))))
 (.seq (.rg [Im 34 3, Im 2 34])
 .ret))))⟩
theorem ck136:zh Tryz.prog 136 ir136=true:=by kernel_rfl
def ir137 : AFn := ⟨8, 2, [.t 3], .seq (.rg [Imb 3 false])
 (.seq (.rg [Ilb 4 3 1, Im 5 0, Io 6 (.call 138 [(.t 4), (.t 5)]), Ing 7 6, Im 3 7])
 .ret)⟩
theorem ck137:zh Tryz.prog 137 ir137=true:=by kernel_rfl
def ir138 : AFn := ⟨9, 2, [.t 4], .seq (.rg [Ibx 2 0, Imb 4 false])
 (.seq (.rg [Im 5 1, Io 6 (.mkfn 195 [] [(.t 2)]), Io 7 (.call 194 [(.t 5), (.t 6)]), Ing 8 7, Im 4 8])
 .ret)⟩
theorem ck138:zh Tryz.prog 138 ir138=true:=by kernel_rfl
def ir139 : AFn := ⟨8, 2, [.t 3], .seq (.rg [Imb 3 false])
 (.seq (.rg [Im 4 0, Io 5 (.call 42 [(.k (.sl .nil 1 [])), (.t 4)]), Io 6 (.mkfn 140 [] [(.t 1)]), Io 7 (.call 99 [(.t 5), (.t 6)]), Im 3 7])
 .ret)⟩
theorem ck139:zh Tryz.prog 139 ir139=true:=by kernel_rfl
def ir140 : AFn := ⟨14, 2, [.t 3], .seq (.rg [Imb 3 false])
 (.seq (.rg [Ilb 7 2 1, Im 8 0, Io 9 (.call 8 [(.t 7), (.t 8)]), Im 6 9, Iex 10 6 0, Iex 11 6 1, Io 4 (.alloc [.str [], .str [], .sl .nil 2 [], .sl .nil 7 []]), ⟨none, none, .st 4 (.t 4) (.t 10), []⟩, Im 5 11])
 (.seq (.rg [Im 12 5, Ing 13 12, Im 3 13])
 .ret))⟩
theorem ck140:zh Tryz.prog 140 ir140=true:=by kernel_rfl
def ir141 : AFn := ⟨11, 2, [.t 3], .seq (.rg [Ibx 2 0, Imb 3 false])
 (.seq (.reg [0, 1, 2, 4, 5, 3, 6, 7] [Ilb 4 2 1, If 5 3 2, Il 6 1 5, If 8 0 2, Il 9 1 8, ⟨some 7, none, .call 23 [(.t 4), (.t 6)], [4]⟩, Io 10 (.call 24 [(.t 7), (.t 9)]), Im 3 10])
 .ret)⟩
theorem ck141:zh Tryz.prog 141 ir141=true:=by kernel_rfl
def ir142 : AFn := ⟨9, 2, [.t 3], .seq (.rg [Ibx 2 0, Imb 3 false])
 (.seq (.rg [Il 4 1 1, If 5 0 2, Il 6 1 5, Io 7 (.call 24 [(.t 4), (.t 6)]), Ing 8 7, Im 3 8])
 .ret)⟩
theorem ck142:zh Tryz.prog 142 ir142=true:=by kernel_rfl
def ir143 : AFn := ⟨37, 4, [.t 8], .seq (.rg [Ibx 4 0, Imb 8 false])
 (.scope (.seq (.rg [Imb 9 true])
 (.seq .skip
 (.seq (.seq (.rg [Im 12 2, Iln 13 12, Imv 14 0])
 (.block 0 (.loop [1, 3, 4, 9, 12, 13, 14] (.seq (.rg [Ilt 15 14 13])
 (.seq (.cond (.t 15) .skip (.exit 0))
 (.seq (.block 1 (.seq (.rg [Iia 16 7 12 14, Ilb 17 7 16, Io 11 (.alloc [.int .i64 0, .str [], .str [], .sl .nil 6 [], .sl .nil 2 [], .str [], .sl .nil 7 []]), ⟨none, none, .st 7 (.t 11) (.t 17), []⟩])
 (.seq (.reg [0, 1, 2, 3, 4, 5, 6, 7, 8, 10, 11, 12, 9, 13, 14, 15] [Im 18 3, Im 19 1, Ilb 20 7 11, Io 21 (.callv (.t 18) [(.t 19), (.t 20)]), Im 22 21, Jt 23 22 (.ld 3 true (.t 4)), Jt 24 22 (.ld 3 true (.t 4)), Jm 25 22 1, Jt 26 22 (.ld 7 true (.t 11)), Ja 28 22 6 11, Jl 29 22 1 28, Jm 30 22 3, ⟨some 27, (some (22, true)), .call 145 [(.t 24), (.t 25), (.t 26)], [5, 10]⟩, Jt 31 22 (.call 143 [(.t 23), (.t 27), (.t 29), (.t 30)]), Ipf 32 22 31, Im 9 32])
 (.seq (.rg [Im 33 9, Ing 34 33])
 (.cond (.t 34) (.exit 0) .skip)))))
 (.rg [Iai 35 14 1, Im 14 35])))))))
 (.seq (.rg [Im 36 9, Im 8 36])
 .ret)))))⟩
theorem ck143:zh Tryz.prog 143 ir143=true:=by kernel_rfl
def ir144 : AFn := ⟨51, 3, [.c 6 6 true, .t 7], .seq (.rg [Ibx 3 0, Ibx 5 2, Io 6 (.alloc [.str [], .sl .nil 10 [], .str [], .int .i64 0, .int .i64 0, .sl .nil 2 []]), Imb 7 false])
 (.seq (.seq (.rg [Il 11 1 5, Io 12 (.bs .eql (.t 11) (.k (.str [95, 95, 116, 121, 112, 101, 110, 97, 109, 101]))), Im 13 12, Jt 14 13 (.ld 3 true (.t 3)), Jm 15 13 1, Jt 16 13 (.call 115 [(.t 14), (.t 15)]), Ipf 17 13 16])
 (.cond (.t 17) (.seq (.rg [Io 18 (.bld [.str [], .int .i64 0, .int .i64 0] [(0, 1, (.k (.str [83, 116, 114, 105, 110, 103]))), (2, 1, (.k (.int .i64 1)))]), Io 19 (.bld [.str [], .sl .nil 10 [], .str [], .int .i64 0, .int .i64 0, .sl .nil 2 []] [(0, 1, (.k (.str [95, 95, 116, 121, 112, 101, 110, 97, 109, 101]))), (2, 3, (.t 18))]), ⟨none, none, .st 6 (.t 6) (.t 19), []⟩, Imb 7 true])
 .ret) .skip))
 (.seq (.rg [Ilb 21 3 3, Im 22 1, Io 23 (.call 118 [(.t 21), (.t 22)]), Im 20 23, Iex 24 20 0, Iex 25 20 1, Io 8 (.alloc [.int .i64 0, .str [], .sl .nil 1 [], .sl .nil 6 [], .sl .nil 1 [], .sl .nil 10 []]), ⟨none, none, .st 6 (.t 8) (.t 24), []⟩, Im 9 25])
 (.seq (.seq (.rg [Im 26 9, Ing 27 26, Im 28 27, Fa 29 28 0 8, Fl 30 28 1 29, Jf 31 28 (.bi .neq .i64 (.t 30) (.k (.int .i64 1))), Fm 32 28 31, Ja 33 32 0 8, Jl 34 32 1 33, Jt 35 32 (.bi .neq .i64 (.t 34) (.k (.int .i64 2))), Jf 36 28 (.pick (.t 32) (.t 35) (.k (.bool false))), Ipt 37 28 36])
 (.cond (.t 37) (.seq (.rg [Io 38 (.bld [.str [], .sl .nil 10 [], .str [], .int .i64 0, .int .i64 0, .sl .nil 2 []] []), ⟨none, none, .st 6 (.t 6) (.t 38), []⟩, Imb 7 false])
 .ret) .skip))
 (.seq (.rg [If 39 3 8, Il 40 1 39, Io 41 (.mkfn 196 [] [(.t 5)]), Io 42 (.call 184 [(.t 40), (.t 41)]), Im 10 42])
 (.seq (.seq (.rg [Im 43 10, Io 44 (.bi .lss .i64 (.t 43) (.k (.int .i64 0)))])
 (.cond (.t 44) (.seq (.rg [Io 45 (.bld [.str [], .sl .nil 10 [], .str [], .int .i64 0, .int .i64 0, .sl .nil 2 []] []), ⟨none, none, .st 6 (.t 6) (.t 45), []⟩, Imb 7 false])
 .ret) .skip))
 (.seq (.rg [If 46 3 8, Il 47 1 46, Im 48 10, Iia 49 6 47 48, Ilb 50 6 49, ⟨none, none, .st 6 (.t 6) (.t 50), []⟩, Imb 7 true])
 .ret))))))⟩
theorem ck144:zh Tryz.prog 144 ir144=true:=by kernel_rfl
def ir145 : AFn := ⟨40, 3, [.t 6], .seq (.rg [Ibx 3 0, Ibx 5 2, Io 6 (.mv (.k (.str [])))])
 (.seq (.block 0 (.seq (.rg [If 10 0 5, Il 11 1 10, Iei 12 11 0, Im 9 12])
 (.cond (.t 9) (.seq (.rg [Ilb 14 3 3, Im 15 1, If 16 2 5, Il 17 1 16, Io 18 (.call 144 [(.t 14), (.t 15), (.t 17)]), Im 13 18, Iex 19 13 0, Iex 20 13 1, Io 7 (.alloc [.str [], .sl .nil 10 [], .str [], .int .i64 0, .int .i64 0, .sl .nil 2 []]), ⟨none, none, .st 6 (.t 7) (.t 19), []⟩, Im 8 20])
 (.seq (.rg [If 21 2 7, If 22 0 21, Il 23 1 22, Im 6 23])
 .ret)) (.seq (.rg [If 25 0 5, Il 26 1 25, Iei 27 26 2, Im 28 27, Ja 29 28 5 5, Jl 30 28 1 29, Jt 31 28 (.bs .neq (.t 30) (.k (.str []))), Ipf 32 28 31, Im 24 32])
 (.cond (.t 24) (.seq (.rg [If 33 5 5, Il 34 1 33, Im 6 34])
 .ret) (.seq (.rg [If 36 0 5, Il 37 1 36, Iei 38 37 2, Im 35 38])
 (.cond (.t 35) (.seq (.rg [Im 39 1, Im 6 39])
 .ret) .skip)))))))
 (.seq (.rg [Io 6 (.mv (.k (.str [])))])
 .ret))⟩
theorem ck145:zh Tryz.prog 145 ir145=true:=by kernel_rfl
def ir146 : AFn := ⟨36, 3, [.t 6], .seq (.rg [Ibx 3 0, Imb 6 false])
 (.scope (.seq (.rg [Ilb 13 3 3, Im 14 2, Io 15 (.call 197 [(.t 13), (.t 14)]), Im 7 15])
 (.seq (.rg [Imb 8 false])
 (.seq .skip
 (.seq (.seq (.rg [Ilb 16 3 3, Im 17 1, Io 18 (.call 197 [(.t 16), (.t 17)]), Iln 19 18, Imv 20 0])
 (.block 0 (.loop [7, 8, 18, 19, 20] (.seq (.rg [Ilt 21 20 19])
 (.seq (.cond (.t 21) .skip (.exit 0))
 (.seq (.block 1 (.seq (.rg [Iia 22 1 18 20, Il 23 1 22, Im 10 23])
 (.seq (.rg [Im 24 7, Iln 25 24, Imv 26 0])
 (.block 2 (.loop [7, 8, 10, 18, 19, 20, 24, 25, 26] (.seq (.rg [Ilt 27 26 25])
 (.seq (.cond (.t 27) .skip (.exit 2))
 (.seq (.block 3 (.seq (.rg [Iia 28 1 24 26, Il 29 1 28, Im 12 29])
 (.seq (.rg [Im 30 10, Im 31 12, Io 32 (.bs .eql (.t 30) (.t 31))])
 (.cond (.t 32) (.seq (.rg [Imb 8 true])
 (.exit 0)) .skip))))
 (.rg [Iai 33 26 1, Im 26 33])))))))))
 (.rg [Iai 34 20 1, Im 20 34])))))))
 (.seq (.rg [Im 35 8, Im 6 35])
 .ret))))))⟩
theorem ck146:zh Tryz.prog 146 ir146=true:=by kernel_rfl
def ir147 : AFn := ⟨35, 1, [.t 2], .seq (.rg [Ibx 1 0, Io 2 (.mv (.k (.sl .nil 1 [])))])
 (.seq (.rg [Io 3 (.mv (.k (.sl .nil 1 [])))])
 (.seq (.seq (.rg [If 8 0 1, Il 9 1 8, Iln 10 9, Imv 11 0])
 (.block 0 (.loop [1, 3, 9, 10, 11] (.seq (.rg [Ilt 12 11 10])
 (.seq (.cond (.t 12) .skip (.exit 0))
 (.seq (.block 1 (.seq (.rg [Iia 13 5 9 11, Ilb 14 5 13, Io 5 (.alloc [.int .i64 0, .str [], .sl .nil 10 [], .sl .nil 2 [], .sl .nil 7 []]), ⟨none, none, .st 5 (.t 5) (.t 14), []⟩])
 (.rg [Im 15 3, If 16 3 5, Il 17 1 16, Io 18 (.bls 1 1 [.sl .nil 2 []] [(0, (.t 17))]), Iap 19 1 24 15 18, Im 3 19])))
 (.rg [Iai 20 11 1, Im 11 20])))))))
 (.seq (.seq (.rg [If 21 1 1, Il 22 1 21, Iln 23 22, Imv 24 0])
 (.block 2 (.loop [3, 22, 23, 24] (.seq (.rg [Ilt 25 24 23])
 (.seq (.cond (.t 25) .skip (.exit 2))
 (.seq (.block 3 (.seq (.rg [Iia 26 4 22 24, Ilb 27 4 26, Io 7 (.alloc [.str [], .str [], .sl .nil 2 [], .sl .nil 7 []]), ⟨none, none, .st 4 (.t 7) (.t 27), []⟩])
 (.rg [Im 28 3, If 29 2 7, Il 30 1 29, Io 31 (.bls 1 1 [.sl .nil 2 []] [(0, (.t 30))]), Iap 32 1 24 28 31, Im 3 32])))
 (.rg [Iai 33 24 1, Im 24 33])))))))
 (.seq (.rg [Im 34 3, Im 2 34])
 .ret))))⟩
theorem ck147:zh Tryz.prog 147 ir147=true:=by kernel_rfl
def ir148 : AFn := ⟨13, 1, [.c 2 10 true, .t 3], .seq (.rg [Io 2 (.alloc [.str [], .str [], .int .i64 0, .int .i64 0, .bool false, .int .i64 0, .int .i64 0, .str [], .sl .nil 5 [], .sl .nil 6 []]), Imb 3 false])
 (.seq (.seq (.rg [Im 4 0, Io 5 (.bs .neq (.t 4) (.k (.str [115, 107, 105, 112]))), Im 6 5, Jm 7 6 0, Jt 8 6 (.bs .neq (.t 7) (.k (.str [105, 110, 99, 108, 117, 100, 101]))), Ipf 9 6 8])
 (.cond (.t 9) (.seq (.rg [Io 10 (.bld [.str [], .str [], .int .i64 0, .int .i64 0, .bool false, .int .i64 0, .int .i64 0, .str [], .sl .nil 5 [], .sl .nil 6 []] []), ⟨none, none, .st 10 (.t 2) (.t 10), []⟩, Imb 3 false])
 .ret) .skip))
 (.seq (.rg [Io 11 (.bld [.str [], .int .i64 0, .int .i64 0] [(0, 1, (.k (.str [66, 111, 111, 108, 101, 97, 110]))), (2, 1, (.k (.int .i64 1)))]), Io 12 (.bld [.str [], .str [], .int .i64 0, .int .i64 0, .bool false, .int .i64 0, .int .i64 0, .str [], .sl .nil 5 [], .sl .nil 6 []] [(0, 1, (.k (.str [105, 102]))), (1, 3, (.t 11))]), ⟨none, none, .st 10 (.t 2) (.t 12), []⟩, Imb 3 true])
 .ret))⟩
theorem ck148:zh Tryz.prog 148 ir148=true:=by kernel_rfl
def ir149 : AFn := ⟨10, 3, [.t 5], .seq (.rg [Ibx 4 1, Imb 5 false])
 (.seq (.rg [Il 6 1 2, If 7 4 4, Il 8 1 7, Io 9 (.callv (.t 6) [(.t 8)]), Im 5 9])
 .ret)⟩
theorem ck149:zh Tryz.prog 149 ir149=true:=by kernel_rfl
def ir150 : AFn := ⟨44, 4, [.t 6], .seq (.rg [Ibx 5 1, Imb 6 false])
 (.seq (.seq (.rg [If 11 0 5, Il 12 1 11, Iei 13 12 0])
 (.cond (.t 13) (.seq (.rg [Ilb 15 3 2, Im 16 0, If 17 2 5, Il 18 1 17, Io 19 (.call 144 [(.t 15), (.t 16), (.t 18)]), Im 14 19, Iex 20 14 0, Iex 21 14 1, Io 7 (.alloc [.str [], .sl .nil 10 [], .str [], .int .i64 0, .int .i64 0, .sl .nil 2 []]), ⟨none, none, .st 6 (.t 7) (.t 20), []⟩, Im 8 21])
 (.seq (.rg [Il 22 1 3, If 23 1 7, Il 24 1 23, If 25 3 5, Il 26 1 25, Io 27 (.callv (.t 22) [(.t 24), (.t 26)]), Ing 28 27])
 (.cond (.t 28) (.seq (.rg [Imb 6 false])
 .ret) .skip))) .skip))
 (.seq (.seq (.rg [If 29 4 5, Il 30 1 29, Iln 31 30, Imv 32 0])
 (.block 0 (.loop [3, 30, 31, 32] (.seq (.rg [Ilt 33 32 31])
 (.seq (.cond (.t 33) .skip (.exit 0))
 (.seq (.block 1 (.seq (.rg [Iia 34 2 30 32, Ilb 35 2 34, Io 10 (.alloc [.str [], .sl .nil 6 []]), ⟨none, none, .st 2 (.t 10) (.t 35), []⟩])
 (.seq (.reg [0, 1, 3, 4, 2, 5, 6] [Il 36 1 3, Ilb 37 2 10, If 39 1 10, Il 40 1 39, ⟨some 38, none, .call 151 [(.t 37)], [0, 3]⟩, Io 41 (.callv (.t 36) [(.t 38), (.t 40)]), Ing 42 41])
 (.cond (.t 42) (.seq (.rg [Imb 6 false])
 .ret) .skip))))
 (.rg [Iai 43 32 1, Im 32 43])))))))
 (.seq (.rg [Imb 6 true])
 .ret)))⟩
theorem ck150:zh Tryz.prog 150 ir150=true:=by kernel_rfl
def ir151 : AFn := ⟨15, 1, [.t 2], .seq (.rg [Ibx 1 0, Io 2 (.mv (.k (.sl .nil 10 [])))])
 (.seq (.rg [If 6 0 1, Il 7 1 6, Io 8 (.call 148 [(.t 7)]), Im 5 8, Iex 9 5 0, Iex 10 5 1, Io 3 (.alloc [.str [], .str [], .int .i64 0, .int .i64 0, .bool false, .int .i64 0, .int .i64 0, .str [], .sl .nil 5 [], .sl .nil 6 []]), ⟨none, none, .st 10 (.t 3) (.t 9), []⟩, Im 4 10])
 (.seq (.seq (.rg [Im 11 4, Ing 12 11])
 (.cond (.t 12) (.seq (.rg [Io 2 (.mv (.k (.sl .nil 10 [])))])
 .ret) .skip))
 (.seq (.rg [Ilb 13 10 3, Io 14 (.bls 10 1 [.str [], .str [], .int .i64 0, .int .i64 0, .bool false, .int .i64 0, .int .i64 0, .str [], .sl .nil 5 [], .sl .nil 6 []] [(0, (.t 13))]), Im 2 14])
 .ret)))⟩
theorem ck151:zh Tryz.prog 151 ir151=true:=by kernel_rfl
def ir152 : AFn := ⟨17, 2, [.c 4 10 true, .t 5], .seq (.rg [Ibx 3 1, Io 4 (.alloc [.str [], .str [], .int .i64 0, .int .i64 0, .bool false, .int .i64 0, .int .i64 0, .str [], .sl .nil 5 [], .sl .nil 6 []]), Imb 5 false])
 (.seq (.rg [Im 7 0, Io 8 (.mkfn 198 [] [(.t 3)]), Io 9 (.call 192 [(.t 7), (.t 8)]), Im 6 9])
 (.seq (.seq (.rg [Im 10 6, Io 11 (.bi .lss .i64 (.t 10) (.k (.int .i64 0)))])
 (.cond (.t 11) (.seq (.rg [Io 12 (.bld [.str [], .str [], .int .i64 0, .int .i64 0, .bool false, .int .i64 0, .int .i64 0, .str [], .sl .nil 5 [], .sl .nil 6 []] []), ⟨none, none, .st 10 (.t 4) (.t 12), []⟩, Imb 5 false])
 .ret) .skip))
 (.seq (.rg [Im 13 0, Im 14 6, Iia 15 10 13 14, Ilb 16 10 15, ⟨none, none, .st 10 (.t 4) (.t 16), []⟩, Imb 5 true])
 .ret)))⟩
theorem ck152:zh Tryz.prog 152 ir152=true:=by kernel_rfl
def ir153 : AFn := ⟨25, 1, [.t 2], .seq (.rg [Imb 2 false])
 (.seq (.seq (.rg [Im 7 0, Iln 8 7, Imv 9 0])
 (.block 0 (.loop [0, 7, 8, 9] (.seq (.rg [Ilt 10 9 8])
 (.seq (.cond (.t 10) .skip (.exit 0))
 (.seq (.block 1 (.seq (.rg [Im 11 9, Iia 12 6 7 9, Ilb 13 6 12, Io 4 (.alloc [.str [], .int .i64 0, .int .i64 0, .str [], .sl .nil 5 [], .sl .nil 6 []]), Im 3 11, ⟨none, none, .st 6 (.t 4) (.t 13), []⟩])
 (.seq (.reg [0, 1, 2, 3, 4, 5, 6, 7, 8, 9, 10, 11] [If 15 0 4, Il 16 1 15, Im 17 0, Im 18 3, Io 19 (.sll 6 (.t 17) none (some (.t 18)) none), Io 20 (.call 154 [(.t 16), (.t 19)]), Im 14 20, Iex 21 14 0, Iex 22 14 1, Io 5 (.alloc [.int .i64 0, .int .i64 0, .str [], .sl .nil 5 [], .sl .nil 6 []]), ⟨none, none, .st 5 (.t 5) (.t 21), []⟩, Im 6 22])
 (.seq (.rg [Im 23 6])
 (.cond (.t 23) (.seq (.rg [Imb 2 false])
 .ret) .skip)))))
 (.rg [Iai 24 9 1, Im 9 24])))))))
 (.seq (.rg [Imb 2 true])
 .ret))⟩
theorem ck153:zh Tryz.prog 153 ir153=true:=by kernel_rfl
def ir154 : AFn := ⟨22, 2, [.c 4 5 true, .t 5], .seq (.rg [Io 4 (.alloc [.int .i64 0, .int .i64 0, .str [], .sl .nil 5 [], .sl .nil 6 []]), Imb 5 false])
 (.seq (.seq (.rg [Im 8 1, Iln 9 8, Imv 10 0])
 (.block 0 (.loop [0, 4, 8, 9, 10] (.seq (.rg [Ilt 11 10 9])
 (.seq (.cond (.t 11) .skip (.exit 0))
 (.seq (.block 1 (.seq (.rg [Iia 12 6 8 10, Ilb 13 6 12, Io 7 (.alloc [.str [], .int .i64 0, .int .i64 0, .str [], .sl .nil 5 [], .sl .nil 6 []]), ⟨none, none, .st 6 (.t 7) (.t 13), []⟩])
 (.seq (.rg [If 14 0 7, Il 15 1 14, Im 16 0, Io 17 (.bs .eql (.t 15) (.t 16))])
 (.cond (.t 17) (.seq (.rg [If 18 1 7, Ilb 19 5 18, ⟨none, none, .st 5 (.t 4) (.t 19), []⟩, Imb 5 true])
 .ret) .skip))))
 (.rg [Iai 20 10 1, Im 10 20])))))))
 (.seq (.rg [Io 21 (.bld [.int .i64 0, .int .i64 0, .str [], .sl .nil 5 [], .sl .nil 6 []] []), ⟨none, none, .st 5 (.t 4) (.t 21), []⟩, Imb 5 false])
 .ret))⟩
theorem ck154:zh Tryz.prog 154 ir154=true:=by kernel_rfl
def ir155 : AFn := ⟨11, 1, [.t 2], .seq (.rg [Ibx 1 0, Imb 2 false])
 (.seq (.rg [If 3 1 1, Ilb 4 3 3, Io 5 (.call 199 [(.t 4)]), Im 6 5, Ja 7 6 4 1, Jl 8 6 1 7, Jt 9 6 (.not (.t 8)), Ipf 10 6 9, Im 2 10])
 .ret)⟩
theorem ck155:zh Tryz.prog 155 ir155=true:=by kernel_rfl
def ir156 : AFn := ⟨20, 1, [.t 2], .seq (.rg [Ibx 1 0, Imb 2 false])
 (.seq (.seq (.rg [If 5 2 1, Il 6 1 5, Iln 7 6, Imv 8 0])
 (.block 0 (.loop [1, 6, 7, 8] (.seq (.rg [Ilt 9 8 7])
 (.seq (.cond (.t 9) .skip (.exit 0))
 (.seq (.block 1 (.seq (.rg [Im 10 8, Iia 11 10 6 8, Ilb 12 10 11, Io 4 (.alloc [.str [], .str [], .int .i64 0, .int .i64 0, .bool false, .int .i64 0, .int .i64 0, .str [], .sl .nil 5 [], .sl .nil 6 []]), Im 3 10, ⟨none, none, .st 10 (.t 4) (.t 12), []⟩])
 (.seq (.rg [If 13 2 1, Il 14 1 13, Im 15 3, Io 16 (.sll 10 (.t 14) none (some (.t 15)) none), Io 17 (.mkfn 200 [] [(.t 4)]), Io 18 (.call 157 [(.t 16), (.t 17)])])
 (.cond (.t 18) (.seq (.rg [Imb 2 false])
 .ret) .skip))))
 (.rg [Iai 19 8 1, Im 8 19])))))))
 (.seq (.rg [Imb 2 true])
 .ret))⟩
theorem ck156:zh Tryz.prog 156 ir156=true:=by kernel_rfl
def ir157 : AFn := ⟨9, 2, [.t 4], .seq (.rg [Imb 4 false])
 (.seq (.rg [Im 5 0, Im 6 1, Io 7 (.call 201 [(.t 5), (.t 6)]), Io 8 (.bi .geq .i64 (.t 7) (.k (.int .i64 0))), Im 4 8])
 .ret)⟩
theorem ck157:zh Tryz.prog 157 ir157=true:=by kernel_rfl
def ir158 : AFn := ⟨10, 2, [.t 3], .seq (.rg [Ibx 2 0, Imb 3 false])
 (.seq (.rg [Ilb 4 3 1, If 5 1 2, If 6 0 5, Il 7 1 6, Io 8 (.call 159 [(.t 4), (.t 7)]), Ing 9 8, Im 3 9])
 .ret)⟩
theorem ck158:zh Tryz.prog 158 ir158=true:=by kernel_rfl
def ir159 : AFn := ⟨9, 2, [.t 4], .seq (.rg [Ibx 2 0, Imb 4 false])
 (.seq (.rg [Ilb 5 3 2, Im 6 1, Io 7 (.bls 1 3 [.int .i64 0] [(0, (.k (.int .i64 0))), (1, (.k (.int .i64 4))), (2, (.k (.int .i64 5)))]), Io 8 (.call 101 [(.t 5), (.t 6), (.t 7)]), Im 4 8])
 .ret)⟩
theorem ck159:zh Tryz.prog 159 ir159=true:=by kernel_rfl
def ir160 : AFn := ⟨32, 2, [.t 4], .seq (.rg [Ibx 2 0, Io 4 (.mv (.k (.sl .nil 1 [])))])
 (.seq (.rg [Im 10 1, Io 11 (.call 202 [(.k (.sl .nil 1 [])), (.t 10)]), Im 5 11])
 (.seq (.seq (.rg [Ilb 12 2 2, Im 13 1, Io 14 (.call 11 [(.t 12), (.t 13)]), Iln 15 14, Imv 16 0])
 (.block 0 (.loop [2, 5, 14, 15, 16] (.seq (.rg [Ilt 17 16 15])
 (.seq (.cond (.t 17) .skip (.exit 0))
 (.seq (.block 1 (.seq (.rg [Iia 18 1 14 16, Il 19 1 18, Im 7 19])
 (.seq (.rg [Ilb 21 2 2, Im 22 7, Io 23 (.call 8 [(.t 21), (.t 22)]), Im 20 23, Iex 24 20 0, Iex 25 20 1, Io 8 (.alloc [.str [], .str [], .sl .nil 2 [], .sl .nil 7 []]), ⟨none, none, .st 4 (.t 8) (.t 24), []⟩, Im 9 25])
 (.rg [Im 26 5, If 27 3 8, Il 28 1 27, Io 29 (.call 202 [(.t 26), (.t 28)]), Im 5 29]))))
 (.rg [Iai 30 16 1, Im 16 30])))))))
 (.seq (.rg [Im 31 5, Im 4 31])
 .ret)))⟩
theorem ck160:zh Tryz.prog 160 ir160=true:=by kernel_rfl
def ir161 : AFn := ⟨14, 2, [.t 3], .seq (.rg [Imb 3 false])
 (.seq (.rg [Ilb 7 5 1, Im 8 0, Io 9 (.call 162 [(.t 7), (.t 8)]), Im 6 9, Iex 10 6 0, Iex 11 6 1, Io 4 (.alloc [.str [], .str [], .int .i64 0, .int .i64 0, .bool false, .int .i64 0, .int .i64 0, .str [], .sl .nil 5 [], .sl .nil 6 []]), ⟨none, none, .st 10 (.t 4) (.t 10), []⟩, Im 5 11])
 (.seq (.rg [Im 12 5, Ing 13 12, Im 3 13])
 .ret))⟩
theorem ck161:zh Tryz.prog 161 ir161=true:=by kernel_rfl
def ir162 : AFn := ⟨19, 2, [.c 4 10 true, .t 5], .seq (.rg [Ibx 2 0, Ibx 3 1, Io 4 (.alloc [.str [], .str [], .int .i64 0, .int .i64 0, .bool false, .int .i64 0, .int .i64 0, .str [], .sl .nil 5 [], .sl .nil 6 []]), Imb 5 false])
 (.seq (.rg [If 7 2 2, Il 8 1 7, Io 9 (.mkfn 203 [] [(.t 3)]), Io 10 (.call 201 [(.t 8), (.t 9)]), Im 6 10])
 (.seq (.seq (.rg [Im 11 6, Io 12 (.bi .lss .i64 (.t 11) (.k (.int .i64 0)))])
 (.cond (.t 12) (.seq (.rg [Io 13 (.bld [.str [], .str [], .int .i64 0, .int .i64 0, .bool false, .int .i64 0, .int .i64 0, .str [], .sl .nil 5 [], .sl .nil 6 []] []), ⟨none, none, .st 10 (.t 4) (.t 13), []⟩, Imb 5 false])
 .ret) .skip))
 (.seq (.rg [If 14 2 2, Il 15 1 14, Im 16 6, Iia 17 10 15 16, Ilb 18 10 17, ⟨none, none, .st 10 (.t 4) (.t 18), []⟩, Imb 5 true])
 .ret)))⟩
theorem ck162:zh Tryz.prog 162 ir162=true:=by kernel_rfl
def ir163 : AFn := ⟨9, 2, [.t 3], .seq (.rg [Ibx 2 0, Imb 3 false])
 (.seq (.rg [Il 4 1 1, If 5 0 2, Il 6 1 5, Io 7 (.call 24 [(.t 4), (.t 6)]), Ing 8 7, Im 3 8])
 .ret)⟩
theorem ck163:zh Tryz.prog 163 ir163=true:=by kernel_rfl
def ir164 : AFn := ⟨15, 3, [.t 6], .seq (.rg [Ibx 3 0, Ibx 4 1, Ibx 5 2, Imb 6 false])
 (.seq (.rg [Ilb 7 5 5, Io 8 (.call 204 [(.t 7)]), Im 9 8, Jt 10 9 (.ld 3 true (.t 3)), Jt 11 9 (.ld 3 true (.t 4)), Jt 12 9 (.ld 5 true (.t 5)), Jt 13 9 (.call 205 [(.t 10), (.t 11), (.t 12), (.k (.bool false))]), Ipf 14 9 13, Im 6 14])
 .ret)⟩
theorem ck164:zh Tryz.prog 164 ir164=true:=by kernel_rfl
def ir165 : AFn := ⟨34, 3, [.t 5], .seq (.rg [Imb 5 false])
 (.seq (.seq (.rg [Im 10 1, Iln 11 10, Imv 12 0])
 (.block 0 (.loop [0, 2, 10, 11, 12] (.seq (.rg [Ilt 13 12 11])
 (.seq (.cond (.t 13) .skip (.exit 0))
 (.seq (.block 1 (.seq (.rg [Iia 14 6 10 12, Ilb 15 6 14, Io 7 (.alloc [.str [], .int .i64 0, .int .i64 0, .str [], .sl .nil 5 [], .sl .nil 6 []]), ⟨none, none, .st 6 (.t 7) (.t 15), []⟩])
 (.seq (.rg [Im 17 0, If 18 0 7, Il 19 1 18, Io 20 (.call 152 [(.t 17), (.t 19)]), Im 16 20, Iex 21 16 0, Iex 22 16 1, Io 8 (.alloc [.str [], .str [], .int .i64 0, .int .i64 0, .bool false, .int .i64 0, .int .i64 0, .str [], .sl .nil 5 [], .sl .nil 6 []]), ⟨none, none, .st 10 (.t 8) (.t 21), []⟩, Im 9 22])
 (.seq (.rg [Im 23 9, Im 24 23, Jt 25 24 (.ld 3 true (.t 2)), Ja 26 24 1 8, Jt 27 24 (.ld 3 true (.t 26)), Ja 28 24 1 7, Jt 29 24 (.ld 5 true (.t 28)), Jt 30 24 (.call 164 [(.t 25), (.t 27), (.t 29)]), Jt 31 24 (.not (.t 30)), Ipf 32 24 31])
 (.cond (.t 32) (.seq (.rg [Imb 5 false])
 .ret) .skip)))))
 (.rg [Iai 33 12 1, Im 12 33])))))))
 (.seq (.rg [Imb 5 true])
 .ret))⟩
theorem ck165:zh Tryz.prog 165 ir165=true:=by kernel_rfl
def ir166 : AFn := ⟨44, 3, [.t 6], .seq (.rg [Ibx 3 0, Ibx 4 1, Ibx 5 2, Io 6 (.mv (.k (.sl .nil 5 [])))])
 (.seq (.reg [0, 1, 2, 4, 5, 3, 6, 7] [Ilb 12 3 3, Ilb 13 3 3, Ilb 14 5 5, If 16 4 5, Il 17 1 16, ⟨some 15, none, .call 86 [(.t 13), (.t 14)], [0, 4]⟩, Io 18 (.call 206 [(.t 12), (.t 15), (.t 17)]), Im 7 18])
 (.seq (.seq (.rg [Ilb 19 2 4, If 20 4 5, Il 21 1 20, Io 22 (.call 11 [(.t 19), (.t 21)]), Iln 23 22, Imv 24 0])
 (.block 0 (.loop [3, 4, 7, 22, 23, 24] (.seq (.rg [Ilt 25 24 23])
 (.seq (.cond (.t 25) .skip (.exit 0))
 (.seq (.block 1 (.seq (.rg [Iia 26 1 22 24, Il 27 1 26, Im 9 27])
 (.seq (.rg [Ilb 29 2 4, Im 30 9, Io 31 (.call 8 [(.t 29), (.t 30)]), Im 28 31, Iex 32 28 0, Iex 33 28 1, Io 10 (.alloc [.str [], .str [], .sl .nil 2 [], .sl .nil 7 []]), ⟨none, none, .st 4 (.t 10) (.t 32), []⟩, Im 11 33])
 (.rg [Im 34 7, Ilb 35 3 3, If 36 1 10, Il 37 1 36, If 38 3 10, Il 39 1 38, Io 40 (.call 206 [(.t 35), (.t 37), (.t 39)]), Iap 41 5 56 34 40, Im 7 41]))))
 (.rg [Iai 42 24 1, Im 24 42])))))))
 (.seq (.rg [Im 43 7, Im 6 43])
 .ret)))⟩
theorem ck166:zh Tryz.prog 166 ir166=true:=by kernel_rfl
def ir167 : AFn := ⟨37, 3, [.t 6], .seq (.rg [Ibx 3 0, Ibx 4 1, Imb 6 false])
 (.seq (.seq (.rg [Ilb 7 3 4, Io 8 (.call 199 [(.t 7)]), Ing 9 8, Im 10 9, Fa 11 10 1 3, Jf 12 10 (.ld 3 true (.t 11)), Jf 13 10 (.call 199 [(.t 12)]), Ipt 14 10 13])
 (.cond (.t 14) (.seq (.rg [If 15 1 3, Ilb 16 3 15, Ilb 17 3 4, Io 18 (.call 207 [(.t 16), (.t 17)]), Im 6 18])
 .ret) .skip))
 (.seq (.reg [0, 1, 2, 3, 4, 5, 6, 7, 8, 9, 10, 11, 12, 13, 14, 15, 16, 17, 18] [Im 19 2, Im 20 19, Fa 21 20 4 3, Fl 22 20 1 21, Fm 23 20 22, Ja 24 23 5 3, Ja 25 23 0 24, Jl 26 23 1 25, Jt 27 23 (.bi .neq .i64 (.t 26) (.k (.int .i64 0))), Jf 28 20 (.pick (.t 23) (.t 27) (.k (.bool false))), Ipt 29 20 28, Im 30 29, Ja 31 30 1 3, Jt 32 30 (.ld 3 true (.t 31)), Jt 33 30 (.ld 3 true (.t 4)), ⟨some 34, (some (30, true)), .call 208 [(.t 33)], [13]⟩, Jt 35 30 (.call 207 [(.t 32), (.t 34)]), Ipf 36 30 35, Im 6 36])
 .ret))⟩
theorem ck167:zh Tryz.prog 167 ir167=true:=by kernel_rfl
def ir168 : AFn := ⟨64, 3, [.t 6], .seq (.rg [Io 6 (.mv (.k (.sl .nil 10 [])))])
 (.scope (.seq (.rg [Io 7 (.mv (.k (.sl .nil 10 [])))])
 (.seq .skip
 (.seq (.seq (.rg [Im 10 1, Iln 11 10, Imv 12 0])
 (.block 0 (.loop [0, 2, 7, 10, 11, 12] (.seq (.rg [Ilt 13 12 11])
 (.seq (.cond (.t 13) .skip (.exit 0))
 (.seq (.block 1 (.seq (.rg [Iia 14 10 10 12, Ilb 15 10 14, Io 9 (.alloc [.int .i64 0, .int .i64 0, .str [], .str [], .sl .nil 6 [], .sl .nil 2 [], .str [], .sl .nil 7 [], .str [], .sl .nil 10 []]), ⟨none, none, .st 10 (.t 9) (.t 15), []⟩])
 (.seq (.seq (.rg [If 16 1 9, If 17 0 16, Il 18 1 17])
 (.block 2 (.seq (.rg [Iei 20 18 0, Im 19 20])
 (.cond (.t 19) (.seq (.rg [Im 21 7, Ilb 22 10 9, Io 23 (.bls 10 1 [.int .i64 0, .int .i64 0, .str [], .str [], .sl .nil 6 [], .sl .nil 2 [], .str [], .sl .nil 7 [], .str [], .sl .nil 10 []] [(0, (.t 22))]), Iap 24 10 176 21 23, Im 7 24])
 (.exit 1)) (.seq (.rg [Iei 26 18 2, Im 25 26])
 (.cond (.t 25) (.seq (.rg [Im 27 7, Im 28 0, If 29 9 9, Il 30 1 29, Im 31 2, Io 32 (.call 168 [(.t 28), (.t 30), (.t 31)]), Iap 33 10 176 27 32, Im 7 33])
 (.exit 1)) .skip))))))
 (.seq (.seq (.rg [If 34 1 9, If 35 0 34, Il 36 1 35, Io 37 (.bi .neq .i64 (.t 36) (.k (.int .i64 1))), Im 38 37, Fm 39 38 2, Fa 40 38 1 9, Fa 41 38 2 40, Fl 42 38 1 41, Jf 43 38 (.lkp (.one .s) (.bool false) false (.t 39) (.t 42)), Ipt 44 38 43])
 (.cond (.t 44) (.exit 1) .skip))
 (.seq (.rg [Im 45 2, If 46 1 9, If 47 2 46, Il 48 1 47, ⟨none, none, .mup (.one .s) (.t 45) (.t 48) (.k (.bool true)), []⟩])
 (.reg [0, 1, 2, 3, 4, 5, 6, 7, 8, 9, 10, 11, 12, 13] [Im 49 7, Im 50 0, Im 51 0, Ink 52 51, If 53 4 52, Il 54 1 53, If 55 1 9, If 56 2 55, Il 57 1 56, Io 58 (.lkp (.one .s) (.sl .nil 10 []) false (.t 54) (.t 57)), Im 59 2, Io 60 (.call 168 [(.t 50), (.t 58), (.t 59)]), Iap 61 10 176 49 60, Im 7 61]))))))
 (.rg [Iai 62 12 1, Im 12 62])))))))
 (.seq (.rg [Im 63 7, Im 6 63])
 .ret)))))⟩
theorem ck168:zh Tryz.prog 168 ir168=true:=by kernel_rfl
def ir169 : AFn := ⟨15, 1, [.t 2], .seq (.rg [Ibx 1 0, Io 2 (.mv (.k (.str [])))])
 (.seq (.block 0 (.seq (.rg [If 4 0 1, Il 5 1 4, Io 6 (.bi .neq .i64 (.t 5) (.k (.int .i64 0))), Im 3 6])
 (.cond (.t 3) (.seq (.rg [Io 2 (.mv (.k (.str [])))])
 .ret) (.seq (.rg [If 8 1 1, Il 9 1 8, Io 10 (.bs .neq (.t 9) (.k (.str []))), Im 7 10])
 (.cond (.t 7) (.seq (.rg [If 11 1 1, Il 12 1 11, Im 2 12])
 .ret) .skip)))))
 (.seq (.rg [If 13 2 1, Il 14 1 13, Im 2 14])
 .ret))⟩
theorem ck169:zh Tryz.prog 169 ir169=true:=by kernel_rfl
def ir170 : AFn := ⟨93, 3, [.t 6], .seq (.rg [Ibx 4 1, Ibx 5 2, Imb 6 false])
 (.seq (.rg [If 12 0 4, Il 13 1 12, If 14 0 5, Il 15 1 14, Io 16 (.bld [.int .i64 0, .int .i64 0] [(0, 1, (.t 13)), (1, 1, (.t 15))]), Io 7 (.alloc [.int .i64 0, .int .i64 0]), ⟨none, none, .st 2 (.t 7) (.t 16), []⟩])
 (.seq (.seq (.reg [0, 1, 2, 3, 4, 5, 6, 7, 8, 9, 10] [Im 18 0, Ink 19 18, If 20 6 19, Il 21 1 20, Ilb 22 2 7, Io 23 (.lkp (.agg [(.i .i64), (.i .i64)]) (.bool false) true (.t 21) (.t 22)), Im 17 23, Iex 24 17 0, Iex 25 17 1, Im 8 24, Im 9 25])
 (.seq (.rg [Im 26 9])
 (.cond (.t 26) (.seq (.rg [Im 27 8, Im 6 27])
 .ret) .skip)))
 (.seq (.reg [0, 1, 2, 3, 4, 5, 6, 7, 8, 9, 10, 11, 12, 13, 14, 15, 16, 17, 18, 19, 20, 21, 22, 23, 24, 25] [If 28 8 4, Il 29 1 28, If 30 8 5, Il 31 1 30, Io 32 (.bs .neq (.t 29) (.t 31)), Im 33 32, Jm 34 33 0, Jt 35 33 (.nilchk (.t 34)), Ja 36 33 0 35, Jt 37 33 (.ld 3 true (.t 36)), Ja 38 33 8 4, Jl 39 33 1 38, Jt 40 33 (.bls 1 1 [.int .i64 0] [(0, (.k (.int .i64 1)))]), Jt 41 33 (.call 101 [(.t 37), (.t 39), (.t 40)]), Ipf 42 33 41, Im 43 42, Jm 44 43 0, Jt 45 43 (.nilchk (.t 44)), Ja 46 43 0 45, Jt 47 43 (.ld 3 true (.t 46)), Ja 48 43 8 5, Jl 49 43 1 48, Jt 50 43 (.bls 1 1 [.int .i64 0] [(0, (.k (.int .i64 1)))]), Jt 51 43 (.call 101 [(.t 47), (.t 49), (.t 50)]), Ipf 52 43 51, Im 10 52])
 (.seq (.rg [Im 53 0, Ilb 54 10 4, Ilb 55 10 5, Io 56 (.call 209 [(.t 53), (.t 54), (.t 55)]), Im 57 56, Jm 58 57 10, Jm 59 57 58, Fa 60 59 1 4, Fa 61 59 2 60, Fl 62 59 1 61, Fa 63 59 1 5, Fa 64 59 2 63, Fl 65 59 1 64, Jf 66 59 (.bs .eql (.t 62) (.t 65)), Fm 67 59 66, Ja 68 67 1 4, Ja 69 67 3 68, Jl 70 67 1 69, Ja 71 67 1 5, Ja 72 67 3 71, Jl 73 67 1 72, Jt 74 67 (.call 210 [(.t 70), (.t 73)]), Jf 75 59 (.pick (.t 67) (.t 74) (.k (.bool false))), Fm 76 59 75, Jm 77 76 0, Jt 78 76 (.ld 10 true (.t 4)), Jt 79 76 (.ld 10 true (.t 5)), Jm 80 76 0, Jt 81 76 (.mkfn 170 [(.t 80)] []), Jt 82 76 (.call 211 [(.t 77), (.t 78), (.t 79), (.t 81)]), Jf 83 59 (.pick (.t 76) (.t 82) (.k (.bool false))), Jt 84 57 (.pick (.t 59) (.k (.bool true)) (.t 83)), Ipf 85 57 84, Im 11 85])
 (.seq (.reg [0, 1, 2, 3, 4, 5, 6] [Im 86 0, Ink 87 86, If 88 6 87, Il 89 1 88, Ilb 90 2 7, Im 91 11, ⟨none, none, .mup (.agg [(.i .i64), (.i .i64)]) (.t 89) (.t 90) (.t 91), []⟩])
 (.seq (.rg [Im 92 11, Im 6 92])
 .ret))))))⟩
theorem ck170:zh Tryz.prog 170 ir170=true:=by kernel_rfl
def ir171 : AFn := ⟨28, 1, [.t 2], .seq (.rg [Imb 2 false])
 (.seq (.seq (.rg [Im 4 0, Ils 5 4, Imv 6 0])
 (.block 0 (.loop [0, 5, 6] (.seq (.rg [Ilt 7 6 5])
 (.seq (.cond (.t 7) .skip (.exit 0))
 (.seq (.block 1 (.seq (.rg [Im 8 6, Im 3 8])
 (.seq (.rg [Im 9 0, Im 10 3, Io 11 (.ixs (.t 9) (.t 10)), Io 12 (.call 212 [(.t 11)]), Ing 13 12, Im 14 13, Jm 15 14 3, Jt 16 14 (.bi .eql .i64 (.t 15) (.k (.int .i64 0))), Jm 17 14 16, Fm 18 17 0, Fm 19 17 3, Jf 20 17 (.ixs (.t 18) (.t 19)), Jf 21 17 (.call 213 [(.t 20)]), Jf 22 17 (.not (.t 21)), Jt 23 14 (.pick (.t 17) (.k (.bool true)) (.t 22)), Ipf 24 14 23])
 (.cond (.t 24) (.seq (.rg [Imb 2 false])
 .ret) .skip))))
 (.rg [Iai 25 6 1, Im 6 25])))))))
 (.seq (.rg [Im 26 0, Io 27 (.bs .neq (.t 26) (.k (.str []))), Im 2 27])
 .ret))⟩
theorem ck171:zh Tryz.prog 171 ir171=true:=by kernel_rfl
def ir172 : AFn := ⟨30, 1, [.t 2], .seq (.rg [Ibx 1 0, Imb 2 false])
 (.seq (.rg [If 3 0 1, Il 4 1 3, Io 5 (.call 171 [(.t 4)]), Im 6 5, Ja 7 6 1 1, Jl 8 6 1 7, Jt 9 6 (.bi .geq .i64 (.t 8) (.k (.int .i64 0))), Ipf 10 6 9, Im 11 10, Ja 12 11 1 1, Jl 13 11 1 12, Jt 14 11 (.bi .leq .i64 (.t 13) (.k (.int .i64 4))), Ipf 15 11 14, Im 16 15, Ja 17 16 2 1, Jl 18 16 1 17, Jt 19 16 (.bi .geq .i64 (.t 18) (.k (.int .i64 0))), Ipf 20 16 19, Im 21 20, Ja 22 21 2 1, Jl 23 21 1 22, Ja 24 21 1 1, Jl 25 21 1 24, Jt 26 21 (.bi .add .i64 (.t 25) (.k (.int .i64 1))), Jt 27 21 (.shf .shr (.t 23) (.t 26)), Jt 28 21 (.bi .eql .i64 (.t 27) (.k (.int .i64 0))), Ipf 29 21 28, Im 2 29])
 .ret)⟩
theorem ck172:zh Tryz.prog 172 ir172=true:=by kernel_rfl
def ir173 : AFn := ⟨38, 2, [.t 4], .seq (.rg [Ibx 2 0, Ibx 3 1, Imb 4 false])
 (.seq (.rg [If 5 0 2, Il 6 1 5, If 7 0 3, Il 8 1 7, Io 9 (.bi .eql .i64 (.t 6) (.t 8)), Im 10 9, Ja 11 10 1 2, Jl 12 10 1 11, Ja 13 10 1 3, Jl 14 10 1 13, Jt 15 10 (.bi .eql .i64 (.t 12) (.t 14)), Ipf 16 10 15, Im 17 16, Ja 18 17 2 2, Jl 19 17 1 18, Ja 20 17 2 3, Jl 21 17 1 20, Jt 22 17 (.bs .eql (.t 19) (.t 21)), Ipf 23 17 22, Im 24 23, Ja 25 24 3 2, Jl 26 24 1 25, Ja 27 24 3 3, Jl 28 24 1 27, Jt 29 24 (.call 214 [(.t 26), (.t 28), (.k (.clo 173 [] []))]), Ipf 30 24 29, Im 31 30, Ja 32 31 4 2, Jl 33 31 1 32, Ja 34 31 4 3, Jl 35 31 1 34, Jt 36 31 (.call 215 [(.t 33), (.t 35), (.k (.clo 216 [] []))]), Ipf 37 31 36, Im 4 37])
 .ret)⟩
theorem ck173:zh Tryz.prog 173 ir173=true:=by kernel_rfl
def ir174 : AFn := ⟨45, 3, [], .seq (.rg [Ibx 4 1])
 (.seq (.rg [Ilb 9 5 4, Io 10 (.call 217 [(.t 9)]), Im 8 10, Iex 11 8 0, Iex 12 8 1, Im 6 11, Im 7 12])
 (.seq (.reg [0, 1, 2, 3, 4, 5, 6, 7, 8, 9, 10, 11, 12, 13, 14, 15, 16, 17, 18, 19, 20, 21, 22] [Im 13 0, Im 14 7, Im 15 14, Jm 16 15 0, Jt 17 15 (.nilchk (.t 16)), Ja 18 15 2 17, Jl 19 15 1 18, Jt 20 15 (.ld 5 true (.t 4)), ⟨some 21, (some (15, true)), .call 218 [(.t 20)], [6]⟩, Jt 22 15 (.bi .add .i64 (.t 19) (.t 21)), Jt 23 15 (.bi .leq .i64 (.t 22) (.k (.int .i64 16))), Ipf 24 15 23, Im 25 24, Jm 26 25 2, Jm 27 25 26, Jt 28 27 (.ld 5 true (.t 4)), Jt 29 27 (.call 219 [(.t 28)]), Jt 30 27 (.len (.t 29)), Jt 31 27 (.bi .gtr .i64 (.t 30) (.k (.int .i64 0))), Jt 32 25 (.pick (.t 27) (.t 31) (.k (.bool false))), Jt 33 25 (.not (.t 32)), Ipf 34 25 33, Io 35 (.call 45 [(.t 13), (.t 34)])])
 (.rg [Im 36 0, Im 37 0, Ink 38 37, If 39 0 38, Il 40 1 39, Im 41 6, Iap 42 2 24 40 41, Ink 43 36, If 44 0 43, ⟨none, none, .st 1 (.t 44) (.t 42), []⟩])))⟩
theorem ck174:zh Tryz.prog 174 ir174=true:=by kernel_rfl
def ir175 : AFn := ⟨36, 3, [], .seq (.seq (.rg [Im 8 2, Iln 9 8, Iei 10 9 0])
 (.cond (.t 10) .ret .skip))
 (.seq (.rg [Im 11 0, Io 12 (.bls 1 1 [.str []] [(0, (.k (.str [40])))]), Io 13 (.call 89 [(.t 11), (.t 12)])])
 (.seq (.seq (.rg [Im 14 2, Iln 15 14, Imv 16 0])
 (.block 0 (.loop [0, 1, 14, 15, 16] (.seq (.rg [Ilt 17 16 15])
 (.seq (.cond (.t 17) .skip (.exit 0))
 (.seq (.block 1 (.seq (.rg [Iia 18 6 14 16, Ilb 19 6 18, Io 7 (.alloc [.str [], .int .i64 0, .int .i64 0, .str [], .sl .nil 5 [], .sl .nil 6 []]), ⟨none, none, .st 6 (.t 7) (.t 19), []⟩])
 (.seq (.rg [Im 20 0, If 21 0 7, Il 22 1 21, Io 23 (.call 88 [(.t 20), (.t 22)])])
 (.seq (.rg [Im 24 0, Io 25 (.bls 1 1 [.str []] [(0, (.k (.str [58])))]), Io 26 (.call 89 [(.t 24), (.t 25)])])
 (.rg [Im 27 0, If 28 1 7, Ilb 29 5 28, Im 30 1, Io 31 (.call 174 [(.t 27), (.t 29), (.t 30)])])))))
 (.rg [Iai 32 16 1, Im 16 32])))))))
 (.rg [Im 33 0, Io 34 (.bls 1 1 [.str []] [(0, (.k (.str [41])))]), Io 35 (.call 89 [(.t 33), (.t 34)])])))⟩
theorem ck175:zh Tryz.prog 175 ir175=true:=by kernel_rfl
def ir176 : AFn := ⟨82, 2, [], .scope (.seq (.rg [Im 6 0, Im 7 1, Iln 8 7, Igi 9 8 0, Im 10 9, Jm 11 10 0, Jt 12 10 (.nilchk (.t 11)), Ja 13 10 2 12, Jl 14 10 1 13, Jt 15 10 (.bi .leq .i64 (.t 14) (.k (.int .i64 16))), Ipf 16 10 15, Io 17 (.call 45 [(.t 6), (.t 16)])])
 (.seq .skip
 (.seq (.rg [Im 18 1, Iln 19 18, Imv 20 0])
 (.block 0 (.loop [0, 18, 19, 20] (.seq (.rg [Ilt 21 20 19])
 (.seq (.cond (.t 21) .skip (.exit 0))
 (.seq (.block 1 (.seq (.rg [Iia 22 7 18 20, Ilb 23 7 22, Io 5 (.alloc [.int .i64 0, .str [], .str [], .sl .nil 6 [], .sl .nil 2 [], .str [], .sl .nil 7 []]), ⟨none, none, .st 7 (.t 5) (.t 23), []⟩])
 (.seq (.seq (.rg [Im 24 0, Ink 25 24, If 26 1 25, Il 27 1 26, Ing 28 27])
 (.cond (.t 28) .ret .skip))
 (.seq (.seq (.rg [If 29 0 5, Il 30 1 29])
 (.block 2 (.seq (.rg [Iei 32 30 1, Im 31 32])
 (.cond (.t 31) (.seq (.rg [Im 33 0, Ilb 34 7 5, Io 35 (.call 220 [(.t 33), (.t 34)])])
 (.exit 1)) (.seq (.rg [Iei 37 30 2, Im 36 37])
 (.cond (.t 36) (.seq (.rg [Im 38 0, Ilb 39 7 5, Io 40 (.call 221 [(.t 38), (.t 39)])])
 (.exit 1)) .skip))))))
 (.seq (.rg [Im 41 0, If 42 0 5, Il 43 1 42, Iei 44 43 0, Im 45 44, Ja 46 45 5 5, Jl 47 45 1 46, Jt 48 45 (.bs .eql (.t 47) (.k (.str []))), Ipf 49 45 48, Io 50 (.call 45 [(.t 41), (.t 49)])])
 (.seq (.seq (.rg [If 51 1 5, Il 52 1 51, Io 53 (.bs .neq (.t 52) (.k (.str [])))])
 (.cond (.t 53) (.seq (.rg [Im 54 0, If 55 1 5, Il 56 1 55, Io 57 (.call 88 [(.t 54), (.t 56)])])
 (.rg [Im 58 0, Io 59 (.bls 1 1 [.str []] [(0, (.k (.str [58])))]), Io 60 (.call 89 [(.t 58), (.t 59)])])) .skip))
 (.seq (.rg [Im 61 0, If 62 2 5, Il 63 1 62, Io 64 (.call 88 [(.t 61), (.t 63)])])
 (.seq (.rg [Im 65 0, If 66 3 5, Il 67 1 66, Io 68 (.call 175 [(.t 65), (.k (.bool false)), (.t 67)])])
 (.seq (.rg [Im 69 0, If 70 4 5, Il 71 1 70, Io 72 (.call 92 [(.t 69), (.k (.bool false)), (.t 71)])])
 (.seq (.rg [If 73 6 5, Il 74 1 73, Iln 75 74, Igi 76 75 0])
 (.cond (.t 76) (.rg [Im 77 0, If 78 6 5, Il 79 1 78, Io 80 (.call 93 [(.t 77), (.t 79)])]) .skip)))))))))))
 (.rg [Iai 81 20 1, Im 20 81])))))))))⟩
theorem ck176:zh Tryz.prog 176 ir176=true:=by kernel_rfl
def ir177 : AFn := ⟨68, 1, [.t 2, .t 3], .seq (.rg [Ibx 1 0, Io 2 (.mv (.k (.sl .nil 2 []))), Imb 3 false])
 (.seq (.rg [Io 7 (.call 44 []), Io 8 (.bld [.nilp] [(0, 1, (.t 7))]), Io 4 (.alloc [.nilp]), ⟨none, none, .st 1 (.t 4) (.t 8), []⟩])
 (.seq (.rg [If 9 0 4, Il 10 1 9, Io 11 (.call 88 [(.t 10), (.k (.str [115, 99, 104, 101, 109, 97]))])])
 (.seq (.rg [If 12 0 4, Il 13 1 12, Io 14 (.bls 1 1 [.str []] [(0, (.k (.str [123])))]), Io 15 (.call 89 [(.t 13), (.t 14)])])
 (.seq (.rg [If 16 0 4, Il 17 1 16, Io 18 (.call 88 [(.t 17), (.k (.str [113, 117, 101, 114, 121]))])])
 (.seq (.rg [If 19 0 4, Il 20 1 19, Io 21 (.bls 1 1 [.str []] [(0, (.k (.str [58])))]), Io 22 (.call 89 [(.t 20), (.t 21)])])
 (.seq (.rg [If 23 0 4, Il 24 1 23, If 25 1 1, Il 26 1 25, Io 27 (.call 88 [(.t 24), (.t 26)])])
 (.seq (.seq (.rg [If 28 2 1, Il 29 1 28, Io 30 (.bs .neq (.t 29) (.k (.str [])))])
 (.cond (.t 30) (.seq (.rg [If 31 0 4, Il 32 1 31, Io 33 (.call 88 [(.t 32), (.k (.str [109, 117, 116, 97, 116, 105, 111, 110]))])])
 (.seq (.rg [If 34 0 4, Il 35 1 34, Io 36 (.bls 1 1 [.str []] [(0, (.k (.str [58])))]), Io 37 (.call 89 [(.t 35), (.t 36)])])
 (.rg [If 38 0 4, Il 39 1 38, If 40 2 1, Il 41 1 40, Io 42 (.call 88 [(.t 39), (.t 41)])]))) .skip))
 (.seq (.rg [If 43 0 4, Il 44 1 43, Io 45 (.bls 1 1 [.str []] [(0, (.k (.str [125])))]), Io 46 (.call 89 [(.t 44), (.t 45)])])
 (.seq (.seq (.rg [If 47 0 1, Il 48 1 47, Iln 49 48, Imv 50 0])
 (.block 0 (.loop [4, 48, 49, 50] (.seq (.rg [Ilt 51 50 49])
 (.seq (.cond (.t 51) .skip (.exit 0))
 (.seq (.block 1 (.seq (.rg [Iia 52 6 48 50, Ilb 53 6 52, Io 6 (.alloc [.int .i64 0, .str [], .sl .nil 1 [], .sl .nil 6 [], .sl .nil 1 [], .sl .nil 10 []]), ⟨none, none, .st 6 (.t 6) (.t 53), []⟩])
 (.rg [Ilb 54 1 4, Ilb 55 6 6, Io 56 (.call 222 [(.t 54), (.t 55)])])))
 (.rg [Iai 57 50 1, Im 50 57])))))))
 (.seq (.reg [0, 1, 2, 3, 4, 5, 6, 7, 8, 9, 10, 11] [If 58 0 4, Il 59 1 58, Ink 60 59, If 61 0 60, Il 62 1 61, If 63 0 4, Il 64 1 63, Ink 65 64, If 66 1 65, Il 67 1 66, Im 2 62, Im 3 67])
 .ret))))))))))⟩
theorem ck177:zh Tryz.prog 177 ir177=true:=by kernel_rfl
def ir178 : AFn := ⟨5, 1, [.t 2], .seq (.rg [Imb 2 false])
 (.seq (.rg [Im 3 0, Io 4 (.call 179 [(.t 3), (.k (.str [95, 95]))]), Im 2 4])
 .ret)⟩
theorem ck178:zh Tryz.prog 178 ir178=true:=by kernel_rfl
def ir180 : AFn := ⟨19, 2, [.t 4], .seq (.rg [Imv 4 0])
 (.seq (.seq (.rg [Im 6 0, Iln 7 6, Imv 8 0])
 (.block 0 (.loop [0, 1, 7, 8] (.seq (.rg [Ilt 9 8 7])
 (.seq (.cond (.t 9) .skip (.exit 0))
 (.seq (.block 1 (.seq (.rg [Im 10 8, Im 5 10])
 (.seq (.rg [Im 11 1, Im 12 0, Im 13 5, Iia 14 1 12 13, Il 15 1 14, Io 16 (.callv (.t 11) [(.t 15)])])
 (.cond (.t 16) (.seq (.rg [Im 17 5, Im 4 17])
 .ret) .skip))))
 (.rg [Iai 18 8 1, Im 8 18])))))))
 (.seq (.rg [Io 4 (.mv (.k (.int .i64 (-1))))])
 .ret))⟩
theorem ck180:zh Tryz.prog 180 ir180=true:=by kernel_rfl
def ir181 : AFn := ⟨9, 2, [.t 4], .seq (.rg [Imb 4 false])
 (.seq (.rg [Im 5 0, Im 6 1, Io 7 (.call 224 [(.t 5), (.t 6)]), Io 8 (.bi .geq .i64 (.t 7) (.k (.int .i64 0))), Im 4 8])
 .ret)⟩
theorem ck181:zh Tryz.prog 181 ir181=true:=by kernel_rfl
def ir182 : AFn := ⟨9, 2, [.t 4], .seq (.rg [Imb 4 false])
 (.seq (.rg [Im 5 0, Im 6 1, Io 7 (.call 225 [(.t 5), (.t 6)]), Io 8 (.bi .geq .i64 (.t 7) (.k (.int .i64 0))), Im 4 8])
 .ret)⟩
theorem ck182:zh Tryz.prog 182 ir182=true:=by kernel_rfl
def ir183 : AFn := ⟨8, 2, [.t 3], .seq (.rg [Ibx 2 0, Imb 3 false])
 (.seq (.rg [Il 4 1 1, Ilb 5 6 2, Io 6 (.callv (.t 4) [(.t 5)]), Ing 7 6, Im 3 7])
 .ret)⟩
theorem ck183:zh Tryz.prog 183 ir183=true:=by kernel_rfl
def ir184 : AFn := ⟨19, 2, [.t 4], .seq (.rg [Imv 4 0])
 (.seq (.seq (.rg [Im 6 0, Iln 7 6, Imv 8 0])
 (.block 0 (.loop [0, 1, 7, 8] (.seq (.rg [Ilt 9 8 7])
 (.seq (.cond (.t 9) .skip (.exit 0))
 (.seq (.block 1 (.seq (.rg [Im 10 8, Im 5 10])
 (.seq (.rg [Im 11 1, Im 12 0, Im 13 5, Iia 14 6 12 13, Ilb 15 6 14, Io 16 (.callv (.t 11) [(.t 15)])])
 (.cond (.t 16) (.seq (.rg [Im 17 5, Im 4 17])
 .ret) .skip))))
 (.rg [Iai 18 8 1, Im 8 18])))))))
 (.seq (.rg [Io 4 (.mv (.k (.int .i64 (-1))))])
 .ret))⟩
theorem ck184:zh Tryz.prog 184 ir184=true:=by kernel_rfl
def ir185 : AFn := ⟨10, 2, [.t 3], .seq (.rg [Ibx 2 0, Imb 3 false])
 (.seq (.rg [Ilb 4 3 1, If 5 1 2, If 6 0 5, Il 7 1 6, Io 8 (.call 159 [(.t 4), (.t 7)]), Ing 9 8, Im 3 9])
 .ret)⟩
theorem ck185:zh Tryz.prog 185 ir185=true:=by kernel_rfl
def ir186 : AFn := ⟨17, 1, [.t 2], .seq (.rg [Imb 2 false])
 (.seq (.rg [Im 3 0, Io 4 (.bs .eql (.t 3) (.k (.str [73, 110, 116]))), Im 5 4, Fm 6 5 0, Jf 7 5 (.bs .eql (.t 6) (.k (.str [83, 116, 114, 105, 110, 103]))), Ipt 8 5 7, Im 9 8, Fm 10 9 0, Jf 11 9 (.bs .eql (.t 10) (.k (.str [66, 111, 111, 108, 101, 97, 110]))), Ipt 12 9 11, Im 13 12, Fm 14 13 0, Jf 15 13 (.bs .eql (.t 14) (.k (.str [73, 68]))), Ipt 16 13 15, Im 2 16])
 .ret)⟩
theorem ck186:zh Tryz.prog 186 ir186=true:=by kernel_rfl
def ir187 : AFn := ⟨9, 2, [.t 3], .seq (.rg [Ibx 2 0, Imb 3 false])
 (.seq (.rg [If 4 0 2, Il 5 1 4, If 6 0 1, Il 7 1 6, Io 8 (.bs .eql (.t 5) (.t 7)), Im 3 8])
 .ret)⟩
theorem ck187:zh Tryz.prog 187 ir187=true:=by kernel_rfl
def ir188 : AFn := ⟨68, 3, [.t 6], .seq (.rg [Ibx 3 0, Ibx 4 1, Ibx 5 2, Imb 6 false])
 (.seq (.rg [Ilb 10 3 4, Io 7 (.alloc [.str [], .int .i64 0, .int .i64 0]), ⟨none, none, .st 3 (.t 7) (.t 10), []⟩])
 (.seq (.rg [If 11 0 5, Il 12 1 11, If 13 0 7, ⟨none, none, .st 1 (.t 13) (.t 12), []⟩])
 (.seq (.seq (.rg [Ilb 14 3 4, Io 15 (.call 172 [(.t 14)]), Ing 16 15, Im 17 16, Jf 18 17 (.ld 3 true (.t 7)), Jf 19 17 (.ld 3 true (.t 5)), Jf 20 17 (.call 207 [(.t 18), (.t 19)]), Jf 21 17 (.not (.t 20)), Ipt 22 17 21])
 (.cond (.t 22) (.seq (.rg [Imb 6 false])
 .ret) .skip))
 (.seq (.seq (.rg [If 23 0 4, Il 24 1 23, If 25 0 5, Il 26 1 25, Io 27 (.bs .eql (.t 24) (.t 26))])
 (.cond (.t 27) (.seq (.rg [Imb 6 true])
 .ret) .skip))
 (.seq (.rg [Ilb 29 3 3, If 30 0 4, Il 31 1 30, Io 32 (.call 118 [(.t 29), (.t 31)]), Im 28 32, Iex 33 28 0, Iex 34 28 1, Io 8 (.alloc [.int .i64 0, .str [], .sl .nil 1 [], .sl .nil 6 [], .sl .nil 1 [], .sl .nil 10 []]), ⟨none, none, .st 6 (.t 8) (.t 33), []⟩, Im 9 34])
 (.seq (.seq (.rg [Im 35 9, Ing 36 35])
 (.cond (.t 36) (.seq (.rg [Imb 6 false])
 .ret) .skip))
 (.seq (.reg [0, 1, 2, 3, 4, 5, 6, 8, 9, 7, 10, 11, 12, 13, 14, 15, 16, 17, 18, 19, 20, 21, 22, 23, 24, 25, 26, 27, 28, 29, 30, 31] [If 37 0 8, Il 38 1 37, Iei 39 38 1, Im 40 39, Jt 41 40 (.ld 3 true (.t 3)), Ja 42 40 0 5, Jl 43 40 1 42, Ja 45 40 0 4, Jl 46 40 1 45, ⟨some 44, (some (40, true)), .call 197 [(.t 41), (.t 43)], [8]⟩, Jt 47 40 (.call 24 [(.t 44), (.t 46)]), Ipf 48 40 47, Im 49 48, Fa 50 49 0 8, Fl 51 49 1 50, Jf 52 49 (.bi .eql .i64 (.t 51) (.k (.int .i64 2))), Fm 53 49 52, Jt 54 53 (.ld 3 true (.t 3)), Ja 55 53 0 5, Jl 56 53 1 55, Jt 57 53 (.bls 1 1 [.int .i64 0] [(0, (.k (.int .i64 2)))]), Jt 58 53 (.call 101 [(.t 54), (.t 56), (.t 57)]), Jf 59 49 (.pick (.t 53) (.t 58) (.k (.bool false))), Fm 60 49 59, Ja 61 60 2 8, Jl 62 60 1 61, Ja 63 60 0 5, Jl 64 60 1 63, Jt 65 60 (.call 24 [(.t 62), (.t 64)]), Jf 66 49 (.pick (.t 60) (.t 65) (.k (.bool false))), Ipt 67 49 66, Im 6 67])
 .ret)))))))⟩
theorem ck188:zh Tryz.prog 188 ir188=true:=by kernel_rfl
def ir189 : AFn := ⟨60, 2, [.t 4], .seq (.rg [Ibx 2 0, Ibx 3 1, Imb 4 false])
 (.seq (.seq (.rg [If 13 1 3, Il 14 1 13, Iln 15 14, Imv 16 0])
 (.block 0 (.loop [2, 3, 14, 15, 16] (.seq (.rg [Ilt 17 16 15])
 (.seq (.cond (.t 17) .skip (.exit 0))
 (.seq (.block 1 (.seq (.rg [Iia 18 10 14 16, Ilb 19 10 18, Io 6 (.alloc [.str [], .str [], .int .i64 0, .int .i64 0, .bool false, .int .i64 0, .int .i64 0, .str [], .sl .nil 5 [], .sl .nil 6 []]), ⟨none, none, .st 10 (.t 6) (.t 19), []⟩])
 (.seq (.rg [If 21 1 2, Il 22 1 21, If 23 0 6, Il 24 1 23, Io 25 (.call 152 [(.t 22), (.t 24)]), Im 20 25, Iex 26 20 0, Iex 27 20 1, Io 7 (.alloc [.str [], .str [], .int .i64 0, .int .i64 0, .bool false, .int .i64 0, .int .i64 0, .str [], .sl .nil 5 [], .sl .nil 6 []]), ⟨none, none, .st 10 (.t 7) (.t 26), []⟩, Im 8 27])
 (.seq (.rg [Im 28 8, Ing 29 28, Im 30 29, Fa 31 30 1 7, Jf 32 30 (.ld 3 true (.t 31)), Fa 33 30 1 6, Jf 34 30 (.ld 3 true (.t 33)), Jf 35 30 (.eqa true [.s, (.i .i64), (.i .i64)] (.t 32) (.t 34)), Ipt 36 30 35])
 (.cond (.t 36) (.seq (.rg [Imb 4 false])
 .ret) .skip)))))
 (.rg [Iai 37 16 1, Im 16 37])))))))
 (.seq (.seq (.rg [If 38 1 2, Il 39 1 38, Iln 40 39, Imv 41 0])
 (.block 2 (.loop [3, 39, 40, 41] (.seq (.rg [Ilt 42 41 40])
 (.seq (.cond (.t 42) .skip (.exit 2))
 (.seq (.block 3 (.seq (.rg [Iia 43 10 39 41, Ilb 44 10 43, Io 10 (.alloc [.str [], .str [], .int .i64 0, .int .i64 0, .bool false, .int .i64 0, .int .i64 0, .str [], .sl .nil 5 [], .sl .nil 6 []]), ⟨none, none, .st 10 (.t 10) (.t 44), []⟩])
 (.seq (.rg [If 46 1 3, Il 47 1 46, If 48 0 10, Il 49 1 48, Io 50 (.call 152 [(.t 47), (.t 49)]), Im 45 50, Iex 51 45 0, Iex 52 45 1, Io 11 (.alloc [.str [], .str [], .int .i64 0, .int .i64 0, .bool false, .int .i64 0, .int .i64 0, .str [], .sl .nil 5 [], .sl .nil 6 []]), ⟨none, none, .st 10 (.t 11) (.t 51), []⟩, Im 12 52])
 (.seq (.rg [Im 53 12, Ing 54 53, Im 55 54, Jt 56 55 (.ld 10 true (.t 10)), Jt 57 55 (.call 155 [(.t 56)]), Ipf 58 55 57])
 (.cond (.t 58) (.seq (.rg [Imb 4 false])
 .ret) .skip)))))
 (.rg [Iai 59 41 1, Im 41 59])))))))
 (.seq (.rg [Imb 4 true])
 .ret)))⟩
theorem ck189:zh Tryz.prog 189 ir189=true:=by kernel_rfl
def ir190 : AFn := ⟨56, 2, [.t 4], .seq (.rg [Ibx 2 0, Io 4 (.mv (.k (.sl .nil 1 [])))])
 (.seq (.rg [Ilb 11 3 2, Im 12 1, Io 13 (.call 118 [(.t 11), (.t 12)]), Im 10 13, Iex 14 10 0, Iex 15 10 1, Io 5 (.alloc [.int .i64 0, .str [], .sl .nil 1 [], .sl .nil 6 [], .sl .nil 1 [], .sl .nil 10 []]), ⟨none, none, .st 6 (.t 5) (.t 14), []⟩, Im 6 15])
 (.seq (.rg [Io 7 (.mv (.k (.sl .nil 1 [])))])
 (.seq (.seq (.rg [If 16 5 5, Il 17 1 16, Iln 18 17, Imv 19 0])
 (.block 0 (.loop [2, 7, 17, 18, 19] (.seq (.rg [Ilt 20 19 18])
 (.seq (.cond (.t 20) .skip (.exit 0))
 (.seq (.block 1 (.seq (.rg [Iia 21 10 17 19, Ilb 22 10 21, Io 9 (.alloc [.str [], .str [], .int .i64 0, .int .i64 0, .bool false, .int .i64 0, .int .i64 0, .str [], .sl .nil 5 [], .sl .nil 6 []]), ⟨none, none, .st 10 (.t 9) (.t 22), []⟩])
 (.seq (.rg [If 23 1 9, If 24 1 23, Il 25 1 24, Iei 26 25 0, Im 27 26, Ja 28 27 1 9, Jt 29 27 (.ld 3 true (.t 28)), Jt 30 27 (.call 199 [(.t 29)]), Ipf 31 27 30, Im 32 31, Jt 33 32 (.ld 3 true (.t 2)), Ja 34 32 1 9, Ja 35 32 0 34, Jl 36 32 1 35, Jt 37 32 (.bls 1 1 [.int .i64 0] [(0, (.k (.int .i64 5)))]), Jt 38 32 (.call 101 [(.t 33), (.t 36), (.t 37)]), Ipf 39 32 38, Im 40 39, Jm 41 40 7, Ja 42 40 1 9, Ja 43 40 0 42, Jl 44 40 1 43, Jt 45 40 (.call 24 [(.t 41), (.t 44)]), Jt 46 40 (.not (.t 45)), Ipf 47 40 46])
 (.cond (.t 47) (.rg [Im 48 7, If 49 1 9, If 50 0 49, Il 51 1 50, Io 52 (.bls 1 1 [.str []] [(0, (.t 51))]), Iap 53 1 16 48 52, Im 7 53]) .skip))))
 (.rg [Iai 54 19 1, Im 19 54])))))))
 (.seq (.rg [Im 55 7, Im 4 55])
 .ret))))⟩
theorem ck190:zh Tryz.prog 190 ir190=true:=by kernel_rfl
def ir191 : AFn := ⟨15, 2, [.t 3], .seq (.rg [Ibx 2 0, Imb 3 false])
 (.seq (.rg [If 4 4 2, Il 5 1 4, Im 6 5, Jt 7 6 (.ld 3 true (.t 1)), Ja 8 6 1 2, Jt 9 6 (.ld 3 true (.t 8)), Ja 10 6 5 2, Jt 11 6 (.ld 5 true (.t 10)), Jt 12 6 (.call 164 [(.t 7), (.t 9), (.t 11)]), Jt 13 6 (.not (.t 12)), Ipf 14 6 13, Im 3 14])
 .ret)⟩
theorem ck191:zh Tryz.prog 191 ir191=true:=by kernel_rfl
def ir192 : AFn := ⟨19, 2, [.t 4], .seq (.rg [Imv 4 0])
 (.seq (.seq (.rg [Im 6 0, Iln 7 6, Imv 8 0])
 (.block 0 (.loop [0, 1, 7, 8] (.seq (.rg [Ilt 9 8 7])
 (.seq (.cond (.t 9) .skip (.exit 0))
 (.seq (.block 1 (.seq (.rg [Im 10 8, Im 5 10])
 (.seq (.rg [Im 11 1, Im 12 0, Im 13 5, Iia 14 10 12 13, Ilb 15 10 14, Io 16 (.callv (.t 11) [(.t 15)])])
 (.cond (.t 16) (.seq (.rg [Im 17 5, Im 4 17])
 .ret) .skip))))
 (.rg [Iai 18 8 1, Im 8 18])))))))
 (.seq (.rg [Io 4 (.mv (.k (.int .i64 (-1))))])
 .ret))⟩
theorem ck192:zh Tryz.prog 192 ir192=true:=by kernel_rfl
def ir193 : AFn := ⟨19, 2, [.t 4], .seq (.rg [Imv 4 0])
 (.seq (.seq (.rg [Im 6 0, Iln 7 6, Imv 8 0])
 (.block 0 (.loop [0, 1, 7, 8] (.seq (.rg [Ilt 9 8 7])
 (.seq (.cond (.t 9) .skip (.exit 0))
 (.seq (.block 1 (.seq (.rg [Im 10 8, Im 5 10])
 (.seq (.rg [Im 11 1, Im 12 0, Im 13 5, Iia 14 1 12 13, Il 15 1 14, Io 16 (.callv (.t 11) [(.t 15)])])
 (.cond (.t 16) (.seq (.rg [Im 17 5, Im 4 17])
 .ret) .skip))))
 (.rg [Iai 18 8 1, Im 8 18])))))))
 (.seq (.rg [Io 4 (.mv (.k (.int .i64 (-1))))])
 .ret))⟩
theorem ck193:zh Tryz.prog 193 ir193=true:=by kernel_rfl
def ir194 : AFn := ⟨9, 2, [.t 4], .seq (.rg [Imb 4 false])
 (.seq (.rg [Im 5 0, Im 6 1, Io 7 (.call 226 [(.t 5), (.t 6)]), Io 8 (.bi .geq .i64 (.t 7) (.k (.int .i64 0))), Im 4 8])
 .ret)⟩
theorem ck194:zh Tryz.prog 194 ir194=true:=by kernel_rfl
def ir195 : AFn := ⟨26, 2, [.t 3], .seq (.rg [Ibx 2 0, Imb 3 false])
 (.seq (.rg [If 4 0 2, Il 5 1 4, Iei 6 5 2, Im 7 6, Ja 8 7 5 2, Jl 9 7 1 8, Jt 10 7 (.bs .neq (.t 9) (.k (.str []))), Ipf 11 7 10, Im 12 11, Jt 13 12 (.ld 3 true (.t 1)), Ja 14 12 5 2, Jl 15 12 1 14, Jt 16 12 (.call 115 [(.t 13), (.t 15)]), Jt 17 12 (.not (.t 16)), Ipf 18 12 17, Im 19 18, Jf 20 19 (.ld 3 true (.t 1)), Fa 21 19 6 2, Fl 22 19 1 21, Jf 23 19 (.call 138 [(.t 20), (.t 22)]), Jf 24 19 (.not (.t 23)), Ipt 25 19 24, Im 3 25])
 .ret)⟩
theorem ck195:zh Tryz.prog 195 ir195=true:=by kernel_rfl
def ir196 : AFn := ⟨8, 2, [.t 3], .seq (.rg [Ibx 2 0, Imb 3 false])
 (.seq (.rg [If 4 0 2, Il 5 1 4, Il 6 1 1, Io 7 (.bs .eql (.t 5) (.t 6)), Im 3 7])
 .ret)⟩
theorem ck196:zh Tryz.prog 196 ir196=true:=by kernel_rfl
def ir197 : AFn := ⟨67, 2, [.t 4], .seq (.rg [Ibx 2 0, Io 4 (.mv (.k (.sl .nil 1 [])))])
 (.seq (.rg [Ilb 13 3 2, Im 14 1, Io 15 (.call 118 [(.t 13), (.t 14)]), Im 12 15, Iex 16 12 0, Iex 17 12 1, Io 5 (.alloc [.int .i64 0, .str [], .sl .nil 1 [], .sl .nil 6 [], .sl .nil 1 [], .sl .nil 10 []]), ⟨none, none, .st 6 (.t 5) (.t 16), []⟩, Im 6 17])
 (.seq (.seq (.rg [Im 18 6, Ing 19 18])
 (.cond (.t 19) (.seq (.rg [Io 4 (.mv (.k (.sl .nil 1 [])))])
 .ret) .skip))
 (.seq (.rg [Io 7 (.mv (.k (.sl .nil 1 [])))])
 (.seq (.seq (.rg [If 20 0 5, Il 21 1 20])
 (.block 0 (.seq (.rg [Iei 23 21 1, Im 22 23])
 (.cond (.t 22) (.seq (.rg [Im 24 1, Io 25 (.bls 1 1 [.str []] [(0, (.t 24))]), Im 4 25])
 .ret) (.seq (.rg [Iei 27 21 2, Im 26 27])
 (.cond (.t 26) (.seq (.rg [If 28 0 2, Il 29 1 28, Iln 30 29, Imv 31 0])
 (.block 1 (.loop [1, 7, 29, 30, 31] (.seq (.rg [Ilt 32 31 30])
 (.seq (.cond (.t 32) .skip (.exit 1))
 (.seq (.block 2 (.seq (.rg [Iia 33 6 29 31, Ilb 34 6 33, Io 9 (.alloc [.int .i64 0, .str [], .sl .nil 1 [], .sl .nil 6 [], .sl .nil 1 [], .sl .nil 10 []]), ⟨none, none, .st 6 (.t 9) (.t 34), []⟩])
 (.seq (.rg [If 35 0 9, Il 36 1 35, Iei 37 36 1, Im 38 37, Ja 39 38 2 9, Jl 40 38 1 39, Jm 41 38 1, Jt 42 38 (.call 24 [(.t 40), (.t 41)]), Ipf 43 38 42])
 (.cond (.t 43) (.rg [Im 44 7, If 45 1 9, Il 46 1 45, Io 47 (.call 227 [(.t 44), (.t 46)]), Im 7 47]) .skip))))
 (.rg [Iai 48 31 1, Im 31 48]))))))) (.seq (.rg [Iei 50 21 3, Im 49 50])
 (.cond (.t 49) (.seq (.rg [If 51 4 5, Il 52 1 51, Iln 53 52, Imv 54 0])
 (.block 3 (.loop [2, 7, 52, 53, 54] (.seq (.rg [Ilt 55 54 53])
 (.seq (.cond (.t 55) .skip (.exit 3))
 (.seq (.block 4 (.seq (.rg [Iia 56 1 52 54, Il 57 1 56, Im 11 57])
 (.seq (.rg [Ilb 58 3 2, Im 59 11, Io 60 (.bls 1 1 [.int .i64 0] [(0, (.k (.int .i64 1)))]), Io 61 (.call 101 [(.t 58), (.t 59), (.t 60)])])
 (.cond (.t 61) (.rg [Im 62 7, Im 63 11, Io 64 (.call 227 [(.t 62), (.t 63)]), Im 7 64]) .skip))))
 (.rg [Iai 65 54 1, Im 54 65]))))))) .skip))))))))
 (.seq (.rg [Im 66 7, Im 4 66])
 .ret)))))⟩
theorem ck197:zh Tryz.prog 197 ir197=true:=by kernel_rfl
def ir198 : AFn := ⟨8, 2, [.t 3], .seq (.rg [Ibx 2 0, Imb 3 false])
 (.seq (.rg [If 4 0 2, Il 5 1 4, Il 6 1 1, Io 7 (.bs .eql (.t 5) (.t 6)), Im 3 7])
 .ret)⟩
theorem ck198:zh Tryz.prog 198 ir198=true:=by kernel_rfl
def ir199 : AFn := ⟨9, 1, [.t 2], .seq (.rg [Ibx 1 0, Imb 2 false])
 (.seq (.rg [Ilb 3 3 1, Io 4 (.call 172 [(.t 3)]), Im 5 4, Jt 6 5 (.ld 3 true (.t 1)), Jt 7 5 (.call 228 [(.t 6), (.k (.int .i64 0))]), Ipf 8 5 7, Im 2 8])
 .ret)⟩
theorem ck199:zh Tryz.prog 199 ir199=true:=by kernel_rfl
def ir200 : AFn := ⟨9, 2, [.t 3], .seq (.rg [Ibx 2 0, Imb 3 false])
 (.seq (.rg [If 4 0 2, Il 5 1 4, If 6 0 1, Il 7 1 6, Io 8 (.bs .eql (.t 5) (.t 7)), Im 3 8])
 .ret)⟩
theorem ck200:zh Tryz.prog 200 ir200=true:=by kernel_rfl
def ir201 : AFn := ⟨19, 2, [.t 4], .seq (.rg [Imv 4 0])
 (.seq (.seq (.rg [Im 6 0, Iln 7 6, Imv 8 0])
 (.block 0 (.loop [0, 1, 7, 8] (.seq (.rg [Ilt 9 8 7])
 (.seq (.cond (.t 9) .skip (.exit 0))
 (.seq (.block 1 (.seq (.rg [Im 10 8, Im 5 10])
 (.seq (.rg [Im 11 1, Im 12 0, Im 13 5, Iia 14 10 12 13, Ilb 15 10 14, Io 16 (.callv (.t 11) [(.t 15)])])
 (.cond (.t 16) (.seq (.rg [Im 17 5, Im 4 17])
 .ret) .skip))))
 (.rg [Iai 18 8 1, Im 8 18])))))))
 (.seq (.rg [Io 4 (.mv (.k (.int .i64 (-1))))])
 .ret))⟩
theorem ck201:zh Tryz.prog 201 ir201=true:=by kernel_rfl
def ir202 : AFn := ⟨37, 2, [.t 4], .seq (.rg [Io 4 (.mv (.k (.sl .nil 1 [])))])
 (.seq (.seq (.rg [Im 9 1, Iln 10 9, Imv 11 0])
 (.block 0 (.loop [0, 9, 10, 11] (.seq (.rg [Ilt 12 11 10])
 (.seq (.cond (.t 12) .skip (.exit 0))
 (.seq (.block 1 (.seq (.rg [Iia 13 7 9 11, Ilb 14 7 13, Io 6 (.alloc [.int .i64 0, .str [], .str [], .sl .nil 6 [], .sl .nil 2 [], .str [], .sl .nil 7 []]), ⟨none, none, .st 7 (.t 6) (.t 14), []⟩])
 (.seq (.rg [Im 15 0, If 16 3 6, Il 17 1 16, Io 18 (.call 229 [(.t 15), (.t 17)]), Im 0 18])
 (.seq (.seq (.rg [If 19 4 6, Il 20 1 19, Iln 21 20, Imv 22 0])
 (.block 2 (.loop [0, 6, 9, 10, 11, 20, 21, 22] (.seq (.rg [Ilt 23 22 21])
 (.seq (.cond (.t 23) .skip (.exit 2))
 (.seq (.block 3 (.seq (.rg [Iia 24 2 20 22, Ilb 25 2 24, Io 8 (.alloc [.str [], .sl .nil 6 []]), ⟨none, none, .st 2 (.t 8) (.t 25), []⟩])
 (.rg [Im 26 0, If 27 1 8, Il 28 1 27, Io 29 (.call 229 [(.t 26), (.t 28)]), Im 0 29])))
 (.rg [Iai 30 22 1, Im 22 30])))))))
 (.rg [Im 31 0, If 32 6 6, Il 33 1 32, Io 34 (.call 202 [(.t 31), (.t 33)]), Im 0 34])))))
 (.rg [Iai 35 11 1, Im 11 35])))))))
 (.seq (.rg [Im 36 0, Im 4 36])
 .ret))⟩
theorem ck202:zh Tryz.prog 202 ir202=true:=by kernel_rfl
def ir203 : AFn := ⟨8, 2, [.t 3], .seq (.rg [Ibx 2 0, Imb 3 false])
 (.seq (.rg [If 4 0 2, Il 5 1 4, Il 6 1 1, Io 7 (.bs .eql (.t 5) (.t 6)), Im 3 7])
 .ret)⟩
theorem ck203:zh Tryz.prog 203 ir203=true:=by kernel_rfl
def ir204 : AFn := ⟨5, 1, [.t 2], .seq (.rg [Ibx 1 0, Imb 2 false])
 (.seq (.rg [Ilb 3 5 1, Io 4 (.call 230 [(.t 3), (.k (.clo 231 [] []))]), Im 2 4])
 .ret)⟩
theorem ck204:zh Tryz.prog 204 ir204=true:=by kernel_rfl
def ir205 : AFn := ⟨69, 4, [.t 8], .seq (.rg [Ibx 4 0, Ibx 5 1, Ibx 6 2, Imb 8 false])
 (.seq (.seq (.rg [If 13 0 6, Il 14 1 13])
 (.block 0 (.seq (.rg [Iei 16 14 8, Im 15 16])
 (.cond (.t 15) (.seq (.rg [Ilb 17 3 5, Io 18 (.call 172 [(.t 17)]), Im 8 18])
 .ret) (.seq (.rg [Iei 20 14 0, Im 19 20])
 (.cond (.t 19) (.seq (.rg [Ilb 21 3 5, Io 22 (.call 172 [(.t 21)]), Im 23 22, Jt 24 23 (.ld 3 true (.t 5)), Jt 25 23 (.call 199 [(.t 24)]), Jt 26 23 (.not (.t 25)), Ipf 27 23 26, Im 8 27])
 .ret) .skip))))))
 (.seq (.seq (.rg [Ilb 28 3 5, Io 29 (.call 172 [(.t 28)]), Ing 30 29])
 (.cond (.t 30) (.seq (.rg [Imb 8 false])
 .ret) .skip))
 (.seq (.rg [Ilb 32 3 5, Io 33 (.call 232 [(.t 32)]), Im 31 33, Iex 34 31 0, Iex 35 31 1, Io 9 (.alloc [.str [], .int .i64 0, .int .i64 0]), ⟨none, none, .st 3 (.t 9) (.t 34), []⟩, Im 10 35])
 (.seq (.block 1 (.seq (.rg [Im 37 10, Ing 38 37, Im 36 38])
 (.cond (.t 36) (.seq (.rg [Ilb 39 3 4, If 40 0 5, Il 41 1 40, Ilb 42 5 6, Io 43 (.call 233 [(.t 39), (.t 41), (.t 42)]), Im 8 43])
 .ret) (.seq (.rg [If 45 0 6, Il 46 1 45, Io 47 (.bi .neq .i64 (.t 46) (.k (.int .i64 6))), Im 44 47])
 (.cond (.t 44) (.seq (.rg [Im 48 3, Ing 49 48, Im 50 49, Jt 51 50 (.ld 3 true (.t 4)), Jt 52 50 (.ld 3 true (.t 9)), Jt 53 50 (.ld 5 true (.t 6)), Jt 54 50 (.call 205 [(.t 51), (.t 52), (.t 53), (.k (.bool false))]), Ipf 55 50 54, Im 8 55])
 .ret) .skip)))))
 (.seq (.seq (.rg [If 56 3 6, Il 57 1 56, Iln 58 57, Imv 59 0])
 (.block 2 (.loop [4, 9, 57, 58, 59] (.seq (.rg [Ilt 60 59 58])
 (.seq (.cond (.t 60) .skip (.exit 2))
 (.seq (.block 3 (.seq (.rg [Iia 61 5 57 59, Ilb 62 5 61, Io 12 (.alloc [.int .i64 0, .int .i64 0, .str [], .sl .nil 5 [], .sl .nil 6 []]), ⟨none, none, .st 5 (.t 12) (.t 62), []⟩])
 (.seq (.rg [Ilb 63 3 4, Ilb 64 3 9, Ilb 65 5 12, Io 66 (.call 205 [(.t 63), (.t 64), (.t 65), (.k (.bool true))]), Ing 67 66])
 (.cond (.t 67) (.seq (.rg [Imb 8 false])
 .ret) .skip))))
 (.rg [Iai 68 59 1, Im 59 68])))))))
 (.seq (.rg [Imb 8 true])
 .ret))))))⟩
theorem ck205:zh Tryz.prog 205 ir205=true:=by kernel_rfl
def ir206 : AFn := ⟨67, 3, [.t 6], .seq (.rg [Ibx 3 0, Io 6 (.mv (.k (.sl .nil 5 [])))])
 (.seq (.rg [Io 7 (.mv (.k (.sl .nil 5 [])))])
 (.seq (.seq (.rg [Im 14 2, Iln 15 14, Imv 16 0])
 (.block 0 (.loop [1, 3, 7, 14, 15, 16] (.seq (.rg [Ilt 17 16 15])
 (.seq (.cond (.t 17) .skip (.exit 0))
 (.seq (.block 1 (.seq (.rg [Iia 18 7 14 16, Ilb 19 7 18, Io 9 (.alloc [.int .i64 0, .str [], .str [], .sl .nil 6 [], .sl .nil 2 [], .str [], .sl .nil 7 []]), ⟨none, none, .st 7 (.t 9) (.t 19), []⟩])
 (.seq (.seq (.rg [If 20 0 9, Il 21 1 20, Iei 22 21 0])
 (.cond (.t 22) (.seq (.rg [Ilb 24 3 3, Im 25 1, If 26 2 9, Il 27 1 26, Io 28 (.call 144 [(.t 24), (.t 25), (.t 27)]), Im 23 28, Iex 29 23 0, Iex 30 23 1, Io 10 (.alloc [.str [], .sl .nil 10 [], .str [], .int .i64 0, .int .i64 0, .sl .nil 2 []]), ⟨none, none, .st 6 (.t 10) (.t 29), []⟩, Im 11 30])
 (.rg [Im 31 7, Ilb 32 3 3, If 33 1 10, Il 34 1 33, If 35 3 9, Il 36 1 35, Io 37 (.call 234 [(.t 32), (.t 34), (.t 36)]), Iap 38 5 56 31 37, Im 7 38])) .skip))
 (.seq (.seq (.rg [If 39 4 9, Il 40 1 39, Iln 41 40, Imv 42 0])
 (.block 2 (.loop [1, 3, 7, 9, 14, 15, 16, 40, 41, 42] (.seq (.rg [Ilt 43 42 41])
 (.seq (.cond (.t 43) .skip (.exit 2))
 (.seq (.block 3 (.seq (.rg [Iia 44 2 40 42, Ilb 45 2 44, Io 13 (.alloc [.str [], .sl .nil 6 []]), ⟨none, none, .st 2 (.t 13) (.t 45), []⟩])
 (.reg [0, 1, 2, 4, 5, 3, 6, 7, 8] [Im 46 7, Ilb 47 3 3, Ilb 48 2 13, If 50 1 13, Il 51 1 50, ⟨some 49, none, .call 151 [(.t 48)], [1, 4]⟩, Io 52 (.call 234 [(.t 47), (.t 49), (.t 51)]), Iap 53 5 56 46 52, Im 7 53])))
 (.rg [Iai 54 42 1, Im 42 54])))))))
 (.reg [0, 1, 2, 3, 4, 6, 7, 5, 8, 9, 10] [Im 55 7, Ilb 56 3 3, Ilb 57 3 3, Im 58 1, Ilb 59 7 9, If 61 6 9, Il 62 1 61, ⟨some 60, none, .call 145 [(.t 57), (.t 58), (.t 59)], [1, 6]⟩, Io 63 (.call 206 [(.t 56), (.t 60), (.t 62)]), Iap 64 5 56 55 63, Im 7 64])))))
 (.rg [Iai 65 16 1, Im 16 65])))))))
 (.seq (.rg [Im 66 7, Im 6 66])
 .ret)))⟩
theorem ck206:zh Tryz.prog 206 ir206=true:=by kernel_rfl
def ir207 : AFn := ⟨33, 2, [.t 4], .seq (.rg [Ibx 2 0, Ibx 3 1, Imb 4 false])
 (.seq (.rg [Ilb 5 3 2, Io 6 (.call 172 [(.t 5)]), Im 7 6, Jt 8 7 (.ld 3 true (.t 3)), Jt 9 7 (.call 172 [(.t 8)]), Ipf 10 7 9, Im 11 10, Ja 12 11 0 2, Jl 13 11 1 12, Ja 14 11 0 3, Jl 15 11 1 14, Jt 16 11 (.bs .eql (.t 13) (.t 15)), Ipf 17 11 16, Im 18 17, Ja 19 18 1 2, Jl 20 18 1 19, Ja 21 18 1 3, Jl 22 18 1 21, Jt 23 18 (.bi .eql .i64 (.t 20) (.t 22)), Ipf 24 18 23, Im 25 24, Ja 26 25 2 3, Jl 27 25 1 26, Ja 28 25 2 2, Jl 29 25 1 28, Jt 30 25 (.bi .andNot .i64 (.t 27) (.t 29)), Jt 31 25 (.bi .eql .i64 (.t 30) (.k (.int .i64 0))), Ipf 32 25 31, Im 4 32])
 .ret)⟩
theorem ck207:zh Tryz.prog 207 ir207=true:=by kernel_rfl
def ir208 : AFn := ⟨10, 1, [.c 2 3 true], .seq (.rg [Io 1 (.box (.t 0)), Io 2 (.alloc [.str [], .int .i64 0, .int .i64 0])])
 (.seq (.seq (.rg [Ilb 3 3 1, Io 4 (.call 172 [(.t 3)])])
 (.cond (.t 4) (.rg [If 5 2 1, Il 6 1 5, Io 7 (.bi .andNot .i64 (.t 6) (.k (.int .i64 1))), If 8 2 1, ⟨none, none, .st 1 (.t 8) (.t 7), []⟩]) .skip))
 (.seq (.rg [Ilb 9 3 1, ⟨none, none, .st 3 (.t 2) (.t 9), []⟩])
 .ret))⟩
theorem ck208:zh Tryz.prog 208 ir208=true:=by kernel_rfl
def ir209 : AFn := ⟨81, 3, [.t 6], .seq (.rg [Ibx 4 1, Ibx 5 2, Imb 6 false])
 (.seq (.rg [If 15 0 4, Il 16 1 15, If 17 0 5, Il 18 1 17, Io 19 (.bld [.int .i64 0, .int .i64 0] [(0, 1, (.t 16)), (1, 1, (.t 18))]), Io 7 (.alloc [.int .i64 0, .int .i64 0]), ⟨none, none, .st 2 (.t 7) (.t 19), []⟩])
 (.seq (.seq (.reg [0, 1, 2, 3, 4, 5, 6, 7, 8, 9, 10] [Im 21 0, Ink 22 21, If 23 5 22, Il 24 1 23, Ilb 25 2 7, Io 26 (.lkp (.agg [(.i .i64), (.i .i64)]) (.bool false) true (.t 24) (.t 25)), Im 20 26, Iex 27 20 0, Iex 28 20 1, Im 8 27, Im 9 28])
 (.seq (.rg [Im 29 9])
 (.cond (.t 29) (.seq (.rg [Im 30 8, Im 6 30])
 .ret) .skip)))
 (.seq (.reg [0, 1, 2, 3, 4, 5, 6, 7, 8, 9, 10, 11, 12, 13, 14, 15] [Im 32 0, Ink 33 32, If 34 0 33, Ilb 35 3 34, If 36 8 4, Il 37 1 36, If 38 1 4, If 39 2 38, Il 40 1 39, Io 41 (.call 144 [(.t 35), (.t 37), (.t 40)]), Im 31 41, Iex 42 31 0, Iex 43 31 1, Io 10 (.alloc [.str [], .sl .nil 10 [], .str [], .int .i64 0, .int .i64 0, .sl .nil 2 []]), ⟨none, none, .st 6 (.t 10) (.t 42), []⟩, Im 11 43])
 (.seq (.reg [0, 1, 2, 3, 4, 5, 6, 7, 8, 9, 10, 11, 12, 13, 14, 15] [Im 45 0, Ink 46 45, If 47 0 46, Ilb 48 3 47, If 49 8 5, Il 50 1 49, If 51 1 5, If 52 2 51, Il 53 1 52, Io 54 (.call 144 [(.t 48), (.t 50), (.t 53)]), Im 44 54, Iex 55 44 0, Iex 56 44 1, Io 12 (.alloc [.str [], .sl .nil 10 [], .str [], .int .i64 0, .int .i64 0, .sl .nil 2 []]), ⟨none, none, .st 6 (.t 12) (.t 55), []⟩, Im 13 56])
 (.seq (.reg [0, 1, 2, 3, 4, 5, 6, 7, 8, 9, 10, 11, 12, 13, 14, 15, 16, 17] [Im 57 0, Ink 58 57, If 59 0 58, Ilb 60 3 59, If 61 2 10, Ilb 62 3 61, If 63 2 12, Ilb 64 3 63, Io 65 (.call 235 [(.t 60), (.t 62), (.t 64)]), Im 66 65, Jm 67 66 0, Jt 68 66 (.ld 10 true (.t 4)), Jt 69 66 (.ld 10 true (.t 5)), Jm 70 66 0, Jt 71 66 (.mkfn 209 [(.t 70)] []), Jt 72 66 (.call 211 [(.t 67), (.t 68), (.t 69), (.t 71)]), Ipf 73 66 72, Im 14 73])
 (.seq (.reg [0, 1, 2, 3, 4, 5, 6] [Im 74 0, Ink 75 74, If 76 5 75, Il 77 1 76, Ilb 78 2 7, Im 79 14, ⟨none, none, .mup (.agg [(.i .i64), (.i .i64)]) (.t 77) (.t 78) (.t 79), []⟩])
 (.seq (.rg [Im 80 14, Im 6 80])
 .ret)))))))⟩
theorem ck209:zh Tryz.prog 209 ir209=true:=by kernel_rfl
def ir210 : AFn := ⟨37, 2, [.t 4], .seq (.rg [Imb 4 false])
 (.seq (.seq (.rg [Im 9 0, Iln 10 9, Imv 11 0])
 (.block 0 (.loop [0, 1, 9, 10, 11] (.seq (.rg [Ilt 12 11 10])
 (.seq (.cond (.t 12) .skip (.exit 0))
 (.seq (.block 1 (.seq (.rg [Iia 13 6 9 11, Ilb 14 6 13, Io 6 (.alloc [.str [], .int .i64 0, .int .i64 0, .str [], .sl .nil 5 [], .sl .nil 6 []]), ⟨none, none, .st 6 (.t 6) (.t 14), []⟩])
 (.seq (.rg [If 16 0 6, Il 17 1 16, Im 18 1, Io 19 (.call 154 [(.t 17), (.t 18)]), Im 15 19, Iex 20 15 0, Iex 21 15 1, Io 7 (.alloc [.int .i64 0, .int .i64 0, .str [], .sl .nil 5 [], .sl .nil 6 []]), ⟨none, none, .st 5 (.t 7) (.t 20), []⟩, Im 8 21])
 (.seq (.rg [Im 22 8, Ing 23 22, Im 24 23, Fa 25 24 1 6, Jf 26 24 (.ld 5 true (.t 25)), Jf 27 24 (.ld 5 true (.t 7)), Jf 28 24 (.call 173 [(.t 26), (.t 27)]), Jf 29 24 (.not (.t 28)), Ipt 30 24 29])
 (.cond (.t 30) (.seq (.rg [Imb 4 false])
 .ret) .skip)))))
 (.rg [Iai 31 11 1, Im 11 31])))))))
 (.seq (.rg [Im 32 0, Iln 33 32, Im 34 1, Iln 35 34, Io 36 (.bi .eql .i64 (.t 33) (.t 35)), Im 4 36])
 .ret))⟩
theorem ck210:zh Tryz.prog 210 ir210=true:=by kernel_rfl
def ir211 : AFn := ⟨45, 4, [.t 8], .seq (.rg [Ibx 5 1, Ibx 6 2, Imb 8 false])
 (.seq (.rg [Im 14 0, Ilb 15 10 6, Io 16 (.call 236 [(.t 14), (.t 15)]), Im 9 16])
 (.seq (.seq (.rg [Im 17 0, Ilb 18 10 5, Io 19 (.call 236 [(.t 17), (.t 18)]), Iln 20 19, Imv 21 0])
 (.block 0 (.loop [3, 9, 19, 20, 21] (.seq (.rg [Ilt 22 21 20])
 (.seq (.cond (.t 22) .skip (.exit 0))
 (.seq (.block 1 (.seq (.rg [Iia 23 10 19 21, Ilb 24 10 23, Io 11 (.alloc [.int .i64 0, .int .i64 0, .str [], .str [], .sl .nil 6 [], .sl .nil 2 [], .str [], .sl .nil 7 [], .str [], .sl .nil 10 []]), ⟨none, none, .st 10 (.t 11) (.t 24), []⟩])
 (.scope (.seq .skip
 (.seq (.rg [Im 25 9, Iln 26 25, Imv 27 0])
 (.block 2 (.loop [3, 9, 11, 19, 20, 21, 25, 26, 27] (.seq (.rg [Ilt 28 27 26])
 (.seq (.cond (.t 28) .skip (.exit 2))
 (.seq (.block 3 (.seq (.rg [Iia 29 10 25 27, Ilb 30 10 29, Io 13 (.alloc [.int .i64 0, .int .i64 0, .str [], .str [], .sl .nil 6 [], .sl .nil 2 [], .str [], .sl .nil 7 [], .str [], .sl .nil 10 []]), ⟨none, none, .st 10 (.t 13) (.t 30), []⟩])
 (.seq (.seq (.reg [0, 1, 3, 4, 2, 5, 6] [If 31 1 11, Ilb 32 7 31, If 34 1 13, Ilb 35 7 34, ⟨some 33, none, .call 169 [(.t 32)], [3]⟩, Io 36 (.call 169 [(.t 35)]), Io 37 (.bs .neq (.t 33) (.t 36))])
 (.cond (.t 37) (.exit 3) .skip))
 (.seq (.rg [Im 38 3, Ilb 39 10 11, Ilb 40 10 13, Io 41 (.callv (.t 38) [(.t 39), (.t 40)]), Ing 42 41])
 (.cond (.t 42) (.seq (.rg [Imb 8 false])
 .ret) .skip)))))
 (.rg [Iai 43 27 1, Im 27 43])))))))))))
 (.rg [Iai 44 21 1, Im 21 44])))))))
 (.seq (.rg [Imb 8 true])
 .ret)))⟩
theorem ck211:zh Tryz.prog 211 ir211=true:=by kernel_rfl
def ir212 : AFn := ⟨21, 1, [.t 2], .seq (.rg [Imb 2 false])
 (.seq (.rg [Im 3 0, Io 4 (.bi .geq .u8 (.t 3) (.k (.int .u8 97))), Im 5 4, Jm 6 5 0, Jt 7 5 (.bi .leq .u8 (.t 6) (.k (.int .u8 122))), Ipf 8 5 7, Im 9 8, Fm 10 9 0, Jf 11 9 (.bi .geq .u8 (.t 10) (.k (.int .u8 65))), Fm 12 9 11, Jm 13 12 0, Jt 14 12 (.bi .leq .u8 (.t 13) (.k (.int .u8 90))), Jf 15 9 (.pick (.t 12) (.t 14) (.k (.bool false))), Ipt 16 9 15, Im 17 16, Fm 18 17 0, Jf 19 17 (.bi .eql .u8 (.t 18) (.k (.int .u8 95))), Ipt 20 17 19, Im 2 20])
 .ret)⟩
theorem ck212:zh Tryz.prog 212 ir212=true:=by kernel_rfl
def ir213 : AFn := ⟨9, 1, [.t 2], .seq (.rg [Imb 2 false])
 (.seq (.rg [Im 3 0, Io 4 (.bi .geq .u8 (.t 3) (.k (.int .u8 48))), Im 5 4, Jm 6 5 0, Jt 7 5 (.bi .leq .u8 (.t 6) (.k (.int .u8 57))), Ipf 8 5 7, Im 2 8])
 .ret)⟩
theorem ck213:zh Tryz.prog 213 ir213=true:=by kernel_rfl
def ir214 : AFn := ⟨32, 3, [.t 6], .seq (.rg [Imb 6 false])
 (.seq (.seq (.rg [Im 10 0, Iln 11 10, Im 12 1, Iln 13 12, Io 14 (.bi .neq .i64 (.t 11) (.t 13))])
 (.cond (.t 14) (.seq (.rg [Imb 6 false])
 .ret) .skip))
 (.seq (.seq (.rg [Im 15 0, Iln 16 15, Imv 17 0])
 (.block 0 (.loop [1, 2, 15, 16, 17] (.seq (.rg [Ilt 18 17 16])
 (.seq (.cond (.t 18) .skip (.exit 0))
 (.seq (.block 1 (.seq (.rg [Im 19 17, Iia 20 5 15 17, Ilb 21 5 20, Io 8 (.alloc [.int .i64 0, .int .i64 0, .str [], .sl .nil 5 [], .sl .nil 6 []]), Im 7 19, ⟨none, none, .st 5 (.t 8) (.t 21), []⟩])
 (.seq (.rg [Im 22 1, Im 23 7, Iia 24 5 22 23, Ilb 25 5 24, Io 9 (.alloc [.int .i64 0, .int .i64 0, .str [], .sl .nil 5 [], .sl .nil 6 []]), ⟨none, none, .st 5 (.t 9) (.t 25), []⟩])
 (.seq (.rg [Im 26 2, Ilb 27 5 8, Ilb 28 5 9, Io 29 (.callv (.t 26) [(.t 27), (.t 28)]), Ing 30 29])
 (.cond (.t 30) (.seq (.rg [Imb 6 false])
 .ret) .skip)))))
 (.rg [Iai 31 17 1, Im 17 31])))))))
 (.seq (.rg [Imb 6 true])
 .ret)))⟩
theorem ck214:zh Tryz.prog 214 ir214=true:=by kernel_rfl
def ir215 : AFn := ⟨32, 3, [.t 6], .seq (.rg [Imb 6 false])
 (.seq (.seq (.rg [Im 10 0, Iln 11 10, Im 12 1, Iln 13 12, Io 14 (.bi .neq .i64 (.t 11) (.t 13))])
 (.cond (.t 14) (.seq (.rg [Imb 6 false])
 .ret) .skip))
 (.seq (.seq (.rg [Im 15 0, Iln 16 15, Imv 17 0])
 (.block 0 (.loop [1, 2, 15, 16, 17] (.seq (.rg [Ilt 18 17 16])
 (.seq (.cond (.t 18) .skip (.exit 0))
 (.seq (.block 1 (.seq (.rg [Im 19 17, Iia 20 6 15 17, Ilb 21 6 20, Io 8 (.alloc [.str [], .int .i64 0, .int .i64 0, .str [], .sl .nil 5 [], .sl .nil 6 []]), Im 7 19, ⟨none, none, .st 6 (.t 8) (.t 21), []⟩])
 (.seq (.rg [Im 22 1, Im 23 7, Iia 24 6 22 23, Ilb 25 6 24, Io 9 (.alloc [.str [], .int .i64 0, .int .i64 0, .str [], .sl .nil 5 [], .sl .nil 6 []]), ⟨none, none, .st 6 (.t 9) (.t 25), []⟩])
 (.seq (.rg [Im 26 2, Ilb 27 6 8, Ilb 28 6 9, Io 29 (.callv (.t 26) [(.t 27), (.t 28)]), Ing 30 29])
 (.cond (.t 30) (.seq (.rg [Imb 6 false])
 .ret) .skip)))))
 (.rg [Iai 31 17 1, Im 17 31])))))))
 (.seq (.rg [Imb 6 true])
 .ret)))⟩
theorem ck215:zh Tryz.prog 215 ir215=true:=by kernel_rfl
def ir216 : AFn := ⟨17, 2, [.t 4], .seq (.rg [Ibx 2 0, Ibx 3 1, Imb 4 false])
 (.seq (.rg [If 5 0 2, Il 6 1 5, If 7 0 3, Il 8 1 7, Io 9 (.bs .eql (.t 6) (.t 8)), Im 10 9, Ja 11 10 1 2, Jt 12 10 (.ld 5 true (.t 11)), Ja 13 10 1 3, Jt 14 10 (.ld 5 true (.t 13)), Jt 15 10 (.call 173 [(.t 12), (.t 14)]), Ipf 16 10 15, Im 4 16])
 .ret)⟩
theorem ck216:zh Tryz.prog 216 ir216=true:=by kernel_rfl
def ir217 : AFn := ⟨9, 1, [.t 2, .t 3], .seq (.rg [Ibx 1 0, Io 2 (.mv (.k (.sl .nil 2 []))), Imb 3 false])
 (.seq (.seq (.rg [Ilb 4 5 1, Io 5 (.call 237 [(.t 4)]), Ing 6 5])
 (.cond (.t 6) (.seq (.rg [Io 2 (.mv (.k (.sl .nil 2 []))), Imb 3 false])
 .ret) .skip))
 (.seq (.rg [Ilb 7 5 1, Io 8 (.call 238 [(.k (.sl .nil 2 [])), (.t 7)]), Im 2 8, Imb 3 true])
 .ret))⟩
theorem ck217:zh Tryz.prog 217 ir217=true:=by kernel_rfl
def ir218 : AFn := ⟨41, 1, [.t 2], .seq (.rg [Ibx 1 0, Imv 2 0])
 (.seq (.rg [Imv 3 0])
 (.seq (.seq (.rg [If 8 0 1, Il 9 1 8])
 (.block 0 (.seq (.rg [Iei 11 9 6, Im 10 11])
 (.cond (.t 10) (.seq (.rg [If 12 3 1, Il 13 1 12, Iln 14 13, Imv 15 0])
 (.block 1 (.loop [3, 13, 14, 15] (.seq (.rg [Ilt 16 15 14])
 (.seq (.cond (.t 16) .skip (.exit 1))
 (.seq (.block 2 (.seq (.rg [Iia 17 5 13 15, Ilb 18 5 17, Io 5 (.alloc [.int .i64 0, .int .i64 0, .str [], .sl .nil 5 [], .sl .nil 6 []]), ⟨none, none, .st 5 (.t 5) (.t 18), []⟩])
 (.rg [Im 19 3, Ilb 20 5 5, Io 21 (.call 218 [(.t 20)]), Io 22 (.mm true (.t 19) [(.t 21)]), Im 3 22])))
 (.rg [Iai 23 15 1, Im 15 23]))))))) (.seq (.rg [Iei 25 9 7, Im 24 25])
 (.cond (.t 24) (.seq (.rg [If 26 4 1, Il 27 1 26, Iln 28 27, Imv 29 0])
 (.block 3 (.loop [3, 27, 28, 29] (.seq (.rg [Ilt 30 29 28])
 (.seq (.cond (.t 30) .skip (.exit 3))
 (.seq (.block 4 (.seq (.rg [Iia 31 6 27 29, Ilb 32 6 31, Io 7 (.alloc [.str [], .int .i64 0, .int .i64 0, .str [], .sl .nil 5 [], .sl .nil 6 []]), ⟨none, none, .st 6 (.t 7) (.t 32), []⟩])
 (.rg [Im 33 3, If 34 1 7, Ilb 35 5 34, Io 36 (.call 218 [(.t 35)]), Io 37 (.mm true (.t 33) [(.t 36)]), Im 3 37])))
 (.rg [Iai 38 29 1, Im 29 38]))))))) (.seq (.rg [Imv 2 0])
 .ret)))))))
 (.seq (.rg [Im 39 3, Iai 40 39 1, Im 2 40])
 .ret)))⟩
theorem ck218:zh Tryz.prog 218 ir218=true:=by kernel_rfl
def ir219 : AFn := ⟨5, 1, [.t 2], .seq (.rg [Ibx 1 0, Io 2 (.mv (.k (.sl .nil 1 [])))])
 (.seq (.rg [Ilb 3 5 1, Io 4 (.call 239 [(.k (.sl .nil 1 [])), (.t 3)]), Im 2 4])
 .ret)⟩
theorem ck219:zh Tryz.prog 219 ir219=true:=by kernel_rfl
def ir220 : AFn := ⟨42, 2, [], .seq (.rg [Ibx 3 1])
 (.seq (.rg [Im 4 0, If 5 1 3, Il 6 1 5, Io 7 (.bs .eql (.t 6) (.k (.str []))), Im 8 7, Ja 9 8 3 3, Jl 10 8 1 9, Jt 11 8 (.len (.t 10)), Jt 12 8 (.bi .eql .i64 (.t 11) (.k (.int .i64 0))), Ipf 13 8 12, Im 14 13, Ja 15 14 5 3, Jl 16 14 1 15, Jt 17 14 (.bs .eql (.t 16) (.k (.str []))), Ipf 18 14 17, Im 19 18, Ja 20 19 6 3, Jl 21 19 1 20, Jt 22 19 (.len (.t 21)), Jt 23 19 (.bi .eql .i64 (.t 22) (.k (.int .i64 0))), Ipf 24 19 23, Im 25 24, Ja 26 25 2 3, Jl 27 25 1 26, Jt 28 25 (.bs .neq (.t 27) (.k (.str [111, 110]))), Ipf 29 25 28, Io 30 (.call 45 [(.t 4), (.t 29)])])
 (.seq (.rg [Im 31 0, Io 32 (.bls 1 1 [.str []] [(0, (.k (.str [46, 46, 46])))]), Io 33 (.call 89 [(.t 31), (.t 32)])])
 (.seq (.rg [Im 34 0, If 35 2 3, Il 36 1 35, Io 37 (.call 88 [(.t 34), (.t 36)])])
 (.rg [Im 38 0, If 39 4 3, Il 40 1 39, Io 41 (.call 92 [(.t 38), (.k (.bool false)), (.t 40)])]))))⟩
theorem ck220:zh Tryz.prog 220 ir220=true:=by kernel_rfl
def ir221 : AFn := ⟨40, 2, [], .seq (.rg [Ibx 3 1])
 (.seq (.rg [Im 4 0, If 5 1 3, Il 6 1 5, Io 7 (.bs .eql (.t 6) (.k (.str []))), Im 8 7, Ja 9 8 2 3, Jl 10 8 1 9, Jt 11 8 (.bs .eql (.t 10) (.k (.str []))), Ipf 12 8 11, Im 13 12, Ja 14 13 3 3, Jl 15 13 1 14, Jt 16 13 (.len (.t 15)), Jt 17 13 (.bi .eql .i64 (.t 16) (.k (.int .i64 0))), Ipf 18 13 17, Io 19 (.call 45 [(.t 4), (.t 18)])])
 (.seq (.rg [Im 20 0, Io 21 (.bls 1 1 [.str []] [(0, (.k (.str [46, 46, 46])))]), Io 22 (.call 89 [(.t 20), (.t 21)])])
 (.seq (.seq (.rg [If 23 5 3, Il 24 1 23, Io 25 (.bs .neq (.t 24) (.k (.str [])))])
 (.cond (.t 25) (.seq (.rg [Im 26 0, Io 27 (.call 88 [(.t 26), (.k (.str [111, 110]))])])
 (.rg [Im 28 0, If 29 5 3, Il 30 1 29, Io 31 (.call 88 [(.t 28), (.t 30)])])) .skip))
 (.seq (.rg [Im 32 0, If 33 4 3, Il 34 1 33, Io 35 (.call 92 [(.t 32), (.k (.bool false)), (.t 34)])])
 (.rg [Im 36 0, If 37 6 3, Il 38 1 37, Io 39 (.call 93 [(.t 36), (.t 38)])])))))⟩
theorem ck221:zh Tryz.prog 221 ir221=true:=by kernel_rfl
def ir222 : AFn := ⟨68, 2, [], .seq (.rg [Ibx 2 0, Ibx 3 1])
 (.seq (.rg [If 4 0 3, Il 5 1 4])
 (.block 0 (.seq (.rg [Iei 10 5 1, Im 9 10])
 (.cond (.t 9) (.rg [Ilb 11 1 2, Ilb 12 6 3, Io 13 (.call 240 [(.t 11), (.k (.str [116, 121, 112, 101])), (.t 12)])]) (.seq (.rg [Iei 15 5 2, Im 14 15])
 (.cond (.t 14) (.rg [Ilb 16 1 2, Ilb 17 6 3, Io 18 (.call 240 [(.t 16), (.k (.str [105, 110, 116, 101, 114, 102, 97, 99, 101])), (.t 17)])]) (.seq (.seq (.rg [Iei 20 5 3, Im 19 20])
 (.cond (.t 19) .skip (.rg [Iei 21 5 4, Im 19 21])))
 (.cond (.t 19) (.rg [Ilb 22 1 2, Ilb 23 6 3, Io 24 (.call 241 [(.t 22), (.t 23)])]) (.seq (.rg [Iei 26 5 5, Im 25 26])
 (.cond (.t 25) (.seq (.rg [If 27 0 2, Il 28 1 27, If 29 5 3, Il 30 1 29, Iln 31 30, Igi 32 31 0, Im 33 32, Ja 34 33 2 3, Jl 35 33 1 34, Jt 36 33 (.len (.t 35)), Ja 37 33 3 3, Jl 38 33 1 37, Jt 39 33 (.len (.t 38)), Jt 40 33 (.bi .add .i64 (.t 36) (.t 39)), Ja 41 33 4 3, Jl 42 33 1 41, Jt 43 33 (.len (.t 42)), Jt 44 33 (.bi .add .i64 (.t 40) (.t 43)), Jt 45 33 (.bi .eql .i64 (.t 44) (.k (.int .i64 0))), Ipf 46 33 45, Io 47 (.call 45 [(.t 28), (.t 46)])])
 (.seq (.rg [If 48 0 2, Il 49 1 48, Io 50 (.call 88 [(.t 49), (.k (.str [105, 110, 112, 117, 116]))])])
 (.seq (.rg [If 51 0 2, Il 52 1 51, If 53 1 3, Il 54 1 53, Io 55 (.call 88 [(.t 52), (.t 54)])])
 (.seq (.rg [If 56 0 2, Il 57 1 56, Io 58 (.bls 1 1 [.str []] [(0, (.k (.str [123])))]), Io 59 (.call 89 [(.t 57), (.t 58)])])
 (.seq (.rg [Ilb 60 1 2, If 61 5 3, Il 62 1 61, Io 63 (.call 242 [(.t 60), (.t 62)])])
 (.rg [If 64 0 2, Il 65 1 64, Io 66 (.bls 1 1 [.str []] [(0, (.k (.str [125])))]), Io 67 (.call 89 [(.t 65), (.t 66)])])))))) (.rg [If 6 0 2, Il 7 1 6, Io 8 (.call 45 [(.t 7), (.k (.bool false))])])))))))))))⟩
theorem ck222:zh Tryz.prog 222 ir222=true:=by kernel_rfl
def ir224 : AFn := ⟨19, 2, [.t 4], .seq (.rg [Imv 4 0])
 (.seq (.seq (.rg [Im 6 0, Iln 7 6, Imv 8 0])
 (.block 0 (.loop [0, 1, 7, 8] (.seq (.rg [Ilt 9 8 7])
 (.seq (.cond (.t 9) .skip (.exit 0))
 (.seq (.block 1 (.seq (.rg [Im 10 8, Im 5 10])
 (.seq (.rg [Im 11 1, Im 12 0, Im 13 5, Iia 14 1 12 13, Il 15 1 14, Io 16 (.bi .eql .i64 (.t 11) (.t 15))])
 (.cond (.t 16) (.seq (.rg [Im 17 5, Im 4 17])
 .ret) .skip))))
 (.rg [Iai 18 8 1, Im 8 18])))))))
 (.seq (.rg [Io 4 (.mv (.k (.int .i64 (-1))))])
 .ret))⟩
theorem ck224:zh Tryz.prog 224 ir224=true:=by kernel_rfl
def ir225 : AFn := ⟨19, 2, [.t 4], .seq (.rg [Imv 4 0])
 (.seq (.seq (.rg [Im 6 0, Iln 7 6, Imv 8 0])
 (.block 0 (.loop [0, 1, 7, 8] (.seq (.rg [Ilt 9 8 7])
 (.seq (.cond (.t 9) .skip (.exit 0))
 (.seq (.block 1 (.seq (.rg [Im 10 8, Im 5 10])
 (.seq (.rg [Im 11 1, Im 12 0, Im 13 5, Iia 14 6 12 13, Ilb 15 6 14, Io 16 (.callv (.t 11) [(.t 15)])])
 (.cond (.t 16) (.seq (.rg [Im 17 5, Im 4 17])
 .ret) .skip))))
 (.rg [Iai 18 8 1, Im 8 18])))))))
 (.seq (.rg [Io 4 (.mv (.k (.int .i64 (-1))))])
 .ret))⟩
theorem ck225:zh Tryz.prog 225 ir225=true:=by kernel_rfl
def ir226 : AFn := ⟨19, 2, [.t 4], .seq (.rg [Imv 4 0])
 (.seq (.seq (.rg [Im 6 0, Iln 7 6, Imv 8 0])
 (.block 0 (.loop [0, 1, 7, 8] (.seq (.rg [Ilt 9 8 7])
 (.seq (.cond (.t 9) .skip (.exit 0))
 (.seq (.block 1 (.seq (.rg [Im 10 8, Im 5 10])
 (.seq (.rg [Im 11 1, Im 12 0, Im 13 5, Iia 14 7 12 13, Ilb 15 7 14, Io 16 (.callv (.t 11) [(.t 15)])])
 (.cond (.t 16) (.seq (.rg [Im 17 5, Im 4 17])
 .ret) .skip))))
 (.rg [Iai 18 8 1, Im 8 18])))))))
 (.seq (.rg [Io 4 (.mv (.k (.int .i64 (-1))))])
 .ret))⟩
theorem ck226:zh Tryz.prog 226 ir226=true:=by kernel_rfl
def ir227 : AFn := ⟨13, 2, [.t 4], .seq (.rg [Io 4 (.mv (.k (.sl .nil 1 [])))])
 (.seq (.seq (.rg [Im 5 0, Im 6 1, Io 7 (.call 24 [(.t 5), (.t 6)])])
 (.cond (.t 7) (.seq (.rg [Im 8 0, Im 4 8])
 .ret) .skip))
 (.seq (.rg [Im 9 0, Im 10 1, Io 11 (.bls 1 1 [.str []] [(0, (.t 10))]), Iap 12 1 16 9 11, Im 4 12])
 .ret))⟩
theorem ck227:zh Tryz.prog 227 ir227=true:=by kernel_rfl
def ir228 : AFn := ⟨11, 2, [.t 4], .seq (.rg [Ibx 2 0, Imb 4 false])
 (.seq (.rg [If 5 2 2, Il 6 1 5, Im 7 1, Io 8 (.shf .shr (.t 6) (.t 7)), Io 9 (.bi .and .i64 (.t 8) (.k (.int .i64 1))), Iei 10 9 1, Im 4 10])
 .ret)⟩
theorem ck228:zh Tryz.prog 228 ir228=true:=by kernel_rfl
def ir229 : AFn := ⟨29, 2, [.t 4], .seq (.rg [Io 4 (.mv (.k (.sl .nil 1 [])))])
 (.seq (.seq (.rg [Im 9 1, Iln 10 9, Imv 11 0])
 (.block 0 (.loop [0, 9, 10, 11] (.seq (.rg [Ilt 12 11 10])
 (.seq (.cond (.t 12) .skip (.exit 0))
 (.seq (.block 1 (.seq (.rg [Iia 13 6 9 11, Ilb 14 6 13, Io 6 (.alloc [.str [], .int .i64 0, .int .i64 0, .str [], .sl .nil 5 [], .sl .nil 6 []]), ⟨none, none, .st 6 (.t 6) (.t 14), []⟩])
 (.seq (.rg [If 15 1 6, Ilb 16 5 15, Io 17 (.call 219 [(.t 16)]), Iln 18 17, Imv 19 0])
 (.block 2 (.loop [0, 9, 10, 11, 17, 18, 19] (.seq (.rg [Ilt 20 19 18])
 (.seq (.cond (.t 20) .skip (.exit 2))
 (.seq (.block 3 (.seq (.rg [Iia 21 1 17 19, Il 22 1 21, Im 8 22])
 (.rg [Im 23 0, Im 24 8, Io 25 (.call 243 [(.t 23), (.t 24)]), Im 0 25])))
 (.rg [Iai 26 19 1, Im 19 26])))))))))
 (.rg [Iai 27 11 1, Im 11 27])))))))
 (.seq (.rg [Im 28 0, Im 4 28])
 .ret))⟩
theorem ck229:zh Tryz.prog 229 ir229=true:=by kernel_rfl
def ir230 : AFn := ⟨60, 2, [.t 4], .seq (.rg [Ibx 2 0, Imb 4 false])
 (.scope (.seq (.rg [Ilb 11 5 2, Io 5 (.alloc [.int .i64 0, .int .i64 0, .str [], .sl .nil 5 [], .sl .nil 6 []]), ⟨none, none, .st 5 (.t 5) (.t 11), []⟩])
 (.seq (.rg [Imb 6 true])
 (.seq .skip
 (.seq (.seq (.rg [If 12 0 2, Il 13 1 12])
 (.block 0 (.seq (.rg [Iei 17 13 6, Im 16 17])
 (.cond (.t 16) (.seq (.rg [If 18 3 5, ⟨none, none, .st 1 (.t 18) (.k (.sl .nil 5 [])), []⟩])
 (.seq (.rg [If 19 3 2, Il 20 1 19, Iln 21 20, Imv 22 0])
 (.block 1 (.loop [1, 5, 6, 20, 21, 22] (.seq (.rg [Ilt 23 22 21])
 (.seq (.cond (.t 23) .skip (.exit 1))
 (.seq (.block 2 (.seq (.rg [Iia 24 5 20 22, Ilb 25 5 24, Io 8 (.alloc [.int .i64 0, .int .i64 0, .str [], .sl .nil 5 [], .sl .nil 6 []]), ⟨none, none, .st 5 (.t 8) (.t 25), []⟩])
 (.seq (.rg [Ilb 26 5 8, Im 27 1, Io 28 (.call 230 [(.t 26), (.t 27)]), Im 6 28])
 (.seq (.rg [Im 29 6, Ing 30 29])
 (.cond (.t 30) (.exit 0) .skip)))))
 (.rg [Iai 31 22 1, Im 22 31])))))))) (.seq (.rg [Iei 33 13 7, Im 32 33])
 (.cond (.t 32) (.seq (.rg [If 34 4 5, ⟨none, none, .st 1 (.t 34) (.k (.sl .nil 6 [])), []⟩])
 (.seq (.rg [If 35 4 2, Il 36 1 35, Iln 37 36, Imv 38 0])
 (.block 3 (.loop [1, 5, 6, 36, 37, 38] (.seq (.rg [Ilt 39 38 37])
 (.seq (.cond (.t 39) .skip (.exit 3))
 (.seq (.block 4 (.seq (.rg [Iia 40 6 36 38, Ilb 41 6 40, Io 10 (.alloc [.str [], .int .i64 0, .int .i64 0, .str [], .sl .nil 5 [], .sl .nil 6 []]), ⟨none, none, .st 6 (.t 10) (.t 41), []⟩])
 (.seq (.rg [Im 42 1, If 43 0 10, Il 44 1 43, Io 45 (.callv (.t 42) [(.t 44)]), Im 46 45, Ja 47 46 1 10, Jt 48 46 (.ld 5 true (.t 47)), Jm 49 46 1, Jt 50 46 (.call 230 [(.t 48), (.t 49)]), Ipf 51 46 50, Im 6 51])
 (.seq (.rg [Im 52 6, Ing 53 52])
 (.cond (.t 53) (.exit 0) .skip)))))
 (.rg [Iai 54 38 1, Im 38 54])))))))) (.seq (.rg [Ilb 14 5 2, Io 15 (.call 244 [(.t 14)]), Im 4 15])
 .ret)))))))
 (.seq (.rg [Im 55 6, Im 56 55, Jt 57 56 (.ld 5 true (.t 5)), Jt 58 56 (.call 245 [(.t 57)]), Ipf 59 56 58, Im 4 59])
 .ret))))))⟩
theorem ck230:zh Tryz.prog 230 ir230=true:=by kernel_rfl
def ir231 : AFn := ⟨5, 1, [.t 2], .seq (.rg [Imb 2 false])
 (.seq (.rg [Im 3 0, Io 4 (.call 246 [(.t 3)]), Im 2 4])
 .ret)⟩
theorem ck231:zh Tryz.prog 231 ir231=true:=by kernel_rfl
def ir232 : AFn := ⟨22, 1, [.c 2 3 true, .t 3], .seq (.rg [Ibx 1 0, Io 2 (.alloc [.str [], .int .i64 0, .int .i64 0]), Imb 3 false])
 (.seq (.seq (.rg [Ilb 4 3 1, Io 5 (.call 172 [(.t 4)]), Ing 6 5, Im 7 6, Fa 8 7 1 1, Fl 9 7 1 8, Jf 10 7 (.bi .eql .i64 (.t 9) (.k (.int .i64 0))), Ipt 11 7 10])
 (.cond (.t 11) (.seq (.rg [Io 12 (.bld [.str [], .int .i64 0, .int .i64 0] []), ⟨none, none, .st 3 (.t 2) (.t 12), []⟩, Imb 3 false])
 .ret) .skip))
 (.seq (.rg [If 13 0 1, Il 14 1 13, If 15 1 1, Il 16 1 15, Isi 17 16 1, If 18 2 1, Il 19 1 18, Io 20 (.shf .shr (.t 19) (.k (.int .u64 1))), Io 21 (.bld [.str [], .int .i64 0, .int .i64 0] [(0, 1, (.t 14)), (1, 1, (.t 17)), (2, 1, (.t 20))]), ⟨none, none, .st 3 (.t 2) (.t 21), []⟩, Imb 3 true])
 .ret))⟩
theorem ck232:zh Tryz.prog 232 ir232=true:=by kernel_rfl
def ir233 : AFn := ⟨81, 3, [.t 6], .seq (.rg [Ibx 3 0, Ibx 5 2, Imb 6 false])
 (.seq (.rg [Ilb 10 3 3, Im 11 1, Io 12 (.call 118 [(.t 10), (.t 11)]), Im 9 12, Iex 13 9 0, Iex 14 9 1, Io 7 (.alloc [.int .i64 0, .str [], .sl .nil 1 [], .sl .nil 6 [], .sl .nil 1 [], .sl .nil 10 []]), ⟨none, none, .st 6 (.t 7) (.t 13), []⟩, Im 8 14])
 (.seq (.block 0 (.seq (.rg [Im 16 8, Ing 17 16, Im 15 17])
 (.cond (.t 15) (.seq (.rg [Imb 6 false])
 .ret) (.seq (.rg [If 19 0 7, Il 20 1 19, Iei 21 20 4, Im 18 21])
 (.cond (.t 18) (.seq (.rg [If 22 0 5, Il 23 1 22, Iei 24 23 5, Im 25 24, Ja 26 25 4 7, Jl 27 25 1 26, Ja 28 25 2 5, Jl 29 25 1 28, Jt 30 25 (.call 24 [(.t 27), (.t 29)]), Ipf 31 25 30, Im 6 31])
 .ret) (.seq (.rg [If 33 0 7, Il 34 1 33, Iei 35 34 5, Im 32 35])
 (.cond (.t 32) (.seq (.rg [Ilb 36 3 3, If 37 5 7, Il 38 1 37, Ilb 39 5 5, Io 40 (.call 247 [(.t 36), (.t 38), (.t 39)]), Im 6 40])
 .ret) (.seq (.rg [If 42 0 7, Il 43 1 42, Io 44 (.bi .neq .i64 (.t 43) (.k (.int .i64 0))), Im 41 44])
 (.cond (.t 41) (.seq (.rg [Imb 6 false])
 .ret) .skip)))))))))
 (.seq (.seq (.rg [Im 45 1])
 (.block 1 (.seq (.rg [Io 47 (.bs .eql (.t 45) (.k (.str [73, 110, 116]))), Im 46 47])
 (.cond (.t 46) (.seq (.rg [If 48 0 5, Il 49 1 48, Iei 50 49 2, Im 51 50, Ja 52 51 1 5, Jl 53 51 1 52, Jt 54 51 (.bi .geq .i64 (.t 53) (.k (.int .i64 (-2147483648)))), Ipf 55 51 54, Im 56 55, Ja 57 56 1 5, Jl 58 56 1 57, Jt 59 56 (.bi .leq .i64 (.t 58) (.k (.int .i64 2147483647))), Ipf 60 56 59, Im 6 60])
 .ret) (.seq (.rg [Io 62 (.bs .eql (.t 45) (.k (.str [83, 116, 114, 105, 110, 103]))), Im 61 62])
 (.cond (.t 61) (.seq (.rg [If 63 0 5, Il 64 1 63, Iei 65 64 4, Im 6 65])
 .ret) (.seq (.rg [Io 67 (.bs .eql (.t 45) (.k (.str [66, 111, 111, 108, 101, 97, 110]))), Im 66 67])
 (.cond (.t 66) (.seq (.rg [If 68 0 5, Il 69 1 68, Iei 70 69 1, Im 6 70])
 .ret) (.seq (.rg [Io 72 (.bs .eql (.t 45) (.k (.str [73, 68]))), Im 71 72])
 (.cond (.t 71) (.seq (.rg [If 73 0 5, Il 74 1 73, Iei 75 74 4, Im 76 75, Fa 77 76 0 5, Fl 78 76 1 77, Jf 79 76 (.bi .eql .i64 (.t 78) (.k (.int .i64 2))), Ipt 80 76 79, Im 6 80])
 .ret) .skip))))))))))
 (.seq (.rg [Imb 6 false])
 .ret))))⟩
theorem ck233:zh Tryz.prog 233 ir233=true:=by kernel_rfl
def ir234 : AFn := ⟨38, 3, [.t 6], .seq (.rg [Ibx 3 0, Io 6 (.mv (.k (.sl .nil 5 [])))])
 (.seq (.rg [Io 7 (.mv (.k (.sl .nil 5 [])))])
 (.seq (.seq (.rg [Im 12 2, Iln 13 12, Imv 14 0])
 (.block 0 (.loop [1, 3, 7, 12, 13, 14] (.seq (.rg [Ilt 15 14 13])
 (.seq (.cond (.t 15) .skip (.exit 0))
 (.seq (.block 1 (.seq (.rg [Iia 16 6 12 14, Ilb 17 6 16, Io 9 (.alloc [.str [], .int .i64 0, .int .i64 0, .str [], .sl .nil 5 [], .sl .nil 6 []]), ⟨none, none, .st 6 (.t 9) (.t 17), []⟩])
 (.seq (.rg [Im 19 1, If 20 0 9, Il 21 1 20, Io 22 (.call 152 [(.t 19), (.t 21)]), Im 18 22, Iex 23 18 0, Iex 24 18 1, Io 10 (.alloc [.str [], .str [], .int .i64 0, .int .i64 0, .bool false, .int .i64 0, .int .i64 0, .str [], .sl .nil 5 [], .sl .nil 6 []]), ⟨none, none, .st 10 (.t 10) (.t 23), []⟩, Im 11 24])
 (.seq (.rg [Im 25 11])
 (.cond (.t 25) (.rg [Im 26 7, Ilb 27 3 3, If 28 1 10, Ilb 29 3 28, If 30 4 10, Il 31 1 30, If 32 1 9, Ilb 33 5 32, Io 34 (.call 248 [(.t 27), (.t 29), (.t 31), (.t 33)]), Iap 35 5 56 26 34, Im 7 35]) .skip)))))
 (.rg [Iai 36 14 1, Im 14 36])))))))
 (.seq (.rg [Im 37 7, Im 6 37])
 .ret)))⟩
theorem ck234:zh Tryz.prog 234 ir234=true:=by kernel_rfl
def ir235 : AFn := ⟨44, 3, [.t 6], .seq (.rg [Ibx 3 0, Ibx 4 1, Ibx 5 2, Imb 6 false])
 (.seq (.seq (.rg [If 7 1 4, Il 8 1 7, If 9 1 5, Il 10 1 9, Io 11 (.bi .neq .i64 (.t 8) (.t 10)), Im 12 11, Fa 13 12 2 4, Fl 14 12 1 13, Fa 15 12 2 5, Fl 16 12 1 15, Jf 17 12 (.bi .neq .i64 (.t 14) (.t 16)), Ipt 18 12 17])
 (.cond (.t 18) (.seq (.rg [Imb 6 false])
 .ret) .skip))
 (.seq (.seq (.rg [Ilb 19 3 3, If 20 0 4, Il 21 1 20, Io 22 (.call 114 [(.t 19), (.t 21)]), Im 23 22, Jf 24 23 (.ld 3 true (.t 3)), Fa 25 23 0 5, Fl 26 23 1 25, Jf 27 23 (.call 114 [(.t 24), (.t 26)]), Ipt 28 23 27])
 (.cond (.t 28) (.seq (.rg [If 29 0 4, Il 30 1 29, If 31 0 5, Il 32 1 31, Io 33 (.bs .eql (.t 30) (.t 32)), Im 6 33])
 .ret) .skip))
 (.seq (.rg [Ilb 34 3 3, If 35 0 4, Il 36 1 35, Io 37 (.call 115 [(.t 34), (.t 36)]), Im 38 37, Jt 39 38 (.ld 3 true (.t 3)), Ja 40 38 0 5, Jl 41 38 1 40, Jt 42 38 (.call 115 [(.t 39), (.t 41)]), Ipf 43 38 42, Im 6 43])
 .ret)))⟩
theorem ck235:zh Tryz.prog 235 ir235=true:=by kernel_rfl
def ir236 : AFn := ⟨10, 2, [.t 4], .seq (.rg [Ibx 3 1, Io 4 (.mv (.k (.sl .nil 10 [])))])
 (.seq (.rg [Im 5 0, If 6 9 3, Il 7 1 6, Io 8 (.mkm (.one .s)), Io 9 (.call 168 [(.t 5), (.t 7), (.t 8)]), Im 4 9])
 .ret)⟩
theorem ck236:zh Tryz.prog 236 ir236=true:=by kernel_rfl
def ir237 : AFn := ⟨10, 1, [.t 2], .seq (.rg [Ibx 1 0, Imb 2 false])
 (.seq (.rg [Ilb 3 5 1, Io 4 (.call 230 [(.t 3), (.k (.clo 171 [] []))]), Im 5 4, Jt 6 5 (.ld 5 true (.t 1)), Jt 7 5 (.call 218 [(.t 6)]), Jt 8 5 (.bi .leq .i64 (.t 7) (.k (.int .i64 16))), Ipf 9 5 8, Im 2 9])
 .ret)⟩
theorem ck237:zh Tryz.prog 237 ir237=true:=by kernel_rfl
def ir238 : AFn := ⟨119, 2, [.t 4], .seq (.rg [Ibx 3 1, Io 4 (.mv (.k (.sl .nil 2 [])))])
 (.seq (.seq (.rg [If 9 0 3, Il 10 1 9])
 (.block 0 (.seq (.rg [Iei 12 10 0, Im 11 12])
 (.cond (.t 11) (.seq (.rg [Im 13 0, Io 14 (.call 249 [(.k (.str [110, 117, 108, 108]))]), Io 15 (.bls 2 1 [.int .i64 0, .str []] [(0, (.t 14))]), Iap 16 2 24 13 15, Im 4 16])
 .ret) (.seq (.rg [Iei 18 10 1, Im 17 18])
 (.cond (.t 17) (.seq (.rg [Im 19 0, If 20 1 3, Il 21 1 20, Iei 22 21 1, Io 23 (.call 250 [(.t 22)]), Io 24 (.call 249 [(.t 23)]), Io 25 (.bls 2 1 [.int .i64 0, .str []] [(0, (.t 24))]), Iap 26 2 24 19 25, Im 4 26])
 .ret) (.seq (.rg [Iei 28 10 2, Im 27 28])
 (.cond (.t 27) (.seq (.rg [Im 29 0, If 30 1 3, Il 31 1 30, Io 32 (.call 251 [(.t 31), (.k (.int .i64 10))]), Io 33 (.bld [.int .i64 0, .str []] [(0, 1, (.k (.int .i64 3))), (1, 1, (.t 32))]), Io 34 (.bls 2 1 [.int .i64 0, .str []] [(0, (.t 33))]), Iap 35 2 24 29 34, Im 4 35])
 .ret) (.seq (.rg [Iei 37 10 3, Im 36 37])
 (.cond (.t 36) (.seq (.reg [0, 1, 2, 4, 5, 3, 6, 7, 8, 9] [Im 38 0, If 39 2 3, Il 40 1 39, If 42 2 3, Il 43 1 42, ⟨some 41, none, .call 252 [(.t 40)], [4]⟩, Io 44 (.bld [.int .i64 0, .str []] [(0, 1, (.t 41)), (1, 1, (.t 43))]), Io 45 (.bls 2 1 [.int .i64 0, .str []] [(0, (.t 44))]), Iap 46 2 24 38 45, Im 4 46])
 .ret) (.seq (.rg [Iei 48 10 4, Im 47 48])
 (.cond (.t 47) (.seq (.rg [Im 49 0, If 50 2 3, Il 51 1 50, Io 52 (.bld [.int .i64 0, .str []] [(0, 1, (.k (.int .i64 5))), (1, 1, (.t 51))]), Io 53 (.bls 2 1 [.int .i64 0, .str []] [(0, (.t 52))]), Iap 54 2 24 49 53, Im 4 54])
 .ret) (.seq (.rg [Iei 56 10 5, Im 55 56])
 (.cond (.t 55) (.seq (.rg [Im 57 0, If 58 2 3, Il 59 1 58, Io 60 (.call 249 [(.t 59)]), Io 61 (.bls 2 1 [.int .i64 0, .str []] [(0, (.t 60))]), Iap 62 2 24 57 61, Im 4 62])
 .ret) (.seq (.rg [Iei 64 10 8, Im 63 64])
 (.cond (.t 63) (.seq (.reg [0, 2, 3, 1, 4, 5, 6, 7] [Im 65 0, If 67 2 3, Il 68 1 67, ⟨some 66, none, .call 253 [(.k (.str [36]))], [2]⟩, Io 69 (.call 249 [(.t 68)]), Io 70 (.bls 2 2 [.int .i64 0, .str []] [(0, (.t 66)), (1, (.t 69))]), Iap 71 2 24 65 70, Im 4 71])
 .ret) (.seq (.rg [Iei 73 10 6, Im 72 73])
 (.cond (.t 72) (.seq (.rg [Im 74 0, Io 75 (.call 253 [(.k (.str [91]))]), Io 76 (.bls 2 1 [.int .i64 0, .str []] [(0, (.t 75))]), Iap 77 2 24 74 76, Im 0 77])
 (.seq (.seq (.rg [If 78 3 3, Il 79 1 78, Iln 80 79, Imv 81 0])
 (.block 1 (.loop [0, 79, 80, 81] (.seq (.rg [Ilt 82 81 80])
 (.seq (.cond (.t 82) .skip (.exit 1))
 (.seq (.block 2 (.seq (.rg [Iia 83 5 79 81, Ilb 84 5 83, Io 6 (.alloc [.int .i64 0, .int .i64 0, .str [], .sl .nil 5 [], .sl .nil 6 []]), ⟨none, none, .st 5 (.t 6) (.t 84), []⟩])
 (.rg [Im 85 0, Ilb 86 5 6, Io 87 (.call 238 [(.t 85), (.t 86)]), Im 0 87])))
 (.rg [Iai 88 81 1, Im 81 88])))))))
 (.seq (.rg [Im 89 0, Io 90 (.call 253 [(.k (.str [93]))]), Io 91 (.bls 2 1 [.int .i64 0, .str []] [(0, (.t 90))]), Iap 92 2 24 89 91, Im 4 92])
 .ret))) .skip))))))))))))))))))
 (.seq (.rg [Im 93 0, Io 94 (.call 253 [(.k (.str [123]))]), Io 95 (.bls 2 1 [.int .i64 0, .str []] [(0, (.t 94))]), Iap 96 2 24 93 95, Im 0 96])
 (.seq (.seq (.rg [If 97 4 3, Il 98 1 97, Iln 99 98, Imv 100 0])
 (.block 3 (.loop [0, 98, 99, 100] (.seq (.rg [Ilt 101 100 99])
 (.seq (.cond (.t 101) .skip (.exit 3))
 (.seq (.block 4 (.seq (.rg [Iia 102 6 98 100, Ilb 103 6 102, Io 8 (.alloc [.str [], .int .i64 0, .int .i64 0, .str [], .sl .nil 5 [], .sl .nil 6 []]), ⟨none, none, .st 6 (.t 8) (.t 103), []⟩])
 (.reg [0, 1, 2, 7, 8, 3, 4, 5, 6, 9, 10] [Im 104 0, If 105 0 8, Il 106 1 105, If 111 1 8, Ilb 112 5 111, ⟨some 107, none, .call 249 [(.t 106)], [4]⟩, ⟨some 108, none, .call 253 [(.k (.str [58]))], [4]⟩, Io 109 (.bls 2 2 [.int .i64 0, .str []] [(0, (.t 107)), (1, (.t 108))]), ⟨some 110, none, .app 2 24 (.t 104) (.t 109), [4]⟩, Io 113 (.call 238 [(.t 110), (.t 112)]), Im 0 113])))
 (.rg [Iai 114 100 1, Im 100 114])))))))
 (.seq (.rg [Im 115 0, Io 116 (.call 253 [(.k (.str [125]))]), Io 117 (.bls 2 1 [.int .i64 0, .str []] [(0, (.t 116))]), Iap 118 2 24 115 117, Im 4 118])
 .ret))))⟩
theorem ck238:zh Tryz.prog 238 ir238=true:=by kernel_rfl
def ir239 : AFn := ⟨51, 2, [.t 4], .seq (.rg [Ibx 3 1, Io 4 (.mv (.k (.sl .nil 1 [])))])
 (.seq (.seq (.rg [If 9 0 3, Il 10 1 9])
 (.block 0 (.seq (.rg [Iei 12 10 8, Im 11 12])
 (.cond (.t 11) (.seq (.rg [Im 13 0, If 14 2 3, Il 15 1 14, Io 16 (.call 24 [(.t 13), (.t 15)]), Ing 17 16])
 (.cond (.t 17) (.rg [Im 18 0, If 19 2 3, Il 20 1 19, Io 21 (.bls 1 1 [.str []] [(0, (.t 20))]), Iap 22 1 16 18 21, Im 0 22]) .skip)) (.seq (.rg [Iei 24 10 6, Im 23 24])
 (.cond (.t 23) (.seq (.rg [If 25 3 3, Il 26 1 25, Iln 27 26, Imv 28 0])
 (.block 1 (.loop [0, 26, 27, 28] (.seq (.rg [Ilt 29 28 27])
 (.seq (.cond (.t 29) .skip (.exit 1))
 (.seq (.block 2 (.seq (.rg [Iia 30 5 26 28, Ilb 31 5 30, Io 6 (.alloc [.int .i64 0, .int .i64 0, .str [], .sl .nil 5 [], .sl .nil 6 []]), ⟨none, none, .st 5 (.t 6) (.t 31), []⟩])
 (.rg [Im 32 0, Ilb 33 5 6, Io 34 (.call 239 [(.t 32), (.t 33)]), Im 0 34])))
 (.rg [Iai 35 28 1, Im 28 35]))))))) (.seq (.rg [Iei 37 10 7, Im 36 37])
 (.cond (.t 36) (.seq (.rg [If 38 4 3, Il 39 1 38, Iln 40 39, Imv 41 0])
 (.block 3 (.loop [0, 39, 40, 41] (.seq (.rg [Ilt 42 41 40])
 (.seq (.cond (.t 42) .skip (.exit 3))
 (.seq (.block 4 (.seq (.rg [Iia 43 6 39 41, Ilb 44 6 43, Io 8 (.alloc [.str [], .int .i64 0, .int .i64 0, .str [], .sl .nil 5 [], .sl .nil 6 []]), ⟨none, none, .st 6 (.t 8) (.t 44), []⟩])
 (.rg [Im 45 0, If 46 1 8, Ilb 47 5 46, Io 48 (.call 239 [(.t 45), (.t 47)]), Im 0 48])))
 (.rg [Iai 49 41 1, Im 41 49]))))))) .skip))))))))
 (.seq (.rg [Im 50 0, Im 4 50])
 .ret))⟩
theorem ck239:zh Tryz.prog 239 ir239=true:=by kernel_rfl
def ir240 : AFn := ⟨55, 3, [], .seq (.rg [Ibx 3 0, Ibx 5 2])
 (.seq (.rg [If 6 0 3, Il 7 1 6, If 8 3 5, Il 9 1 8, Iln 10 9, Igi 11 10 0, Im 12 11, Ja 13 12 4 5, Jl 14 12 1 13, Jt 15 12 (.len (.t 14)), Ja 16 12 5 5, Jl 17 12 1 16, Jt 18 12 (.len (.t 17)), Jt 19 12 (.bi .add .i64 (.t 15) (.t 18)), Jt 20 12 (.bi .eql .i64 (.t 19) (.k (.int .i64 0))), Ipf 21 12 20, Io 22 (.call 45 [(.t 7), (.t 21)])])
 (.seq (.rg [If 23 0 3, Il 24 1 23, Im 25 1, Io 26 (.call 88 [(.t 24), (.t 25)])])
 (.seq (.rg [If 27 0 3, Il 28 1 27, If 29 1 5, Il 30 1 29, Io 31 (.call 88 [(.t 28), (.t 30)])])
 (.seq (.seq (.rg [If 32 2 5, Il 33 1 32, Iln 34 33, Igi 35 34 0])
 (.cond (.t 35) (.seq (.rg [If 36 0 3, Il 37 1 36, Io 38 (.call 88 [(.t 37), (.k (.str [105, 109, 112, 108, 101, 109, 101, 110, 116, 115]))])])
 (.rg [Ilb 39 1 3, If 40 2 5, Il 41 1 40, Io 42 (.call 254 [(.t 39), (.k (.str [38])), (.t 41)])])) .skip))
 (.seq (.rg [If 43 0 3, Il 44 1 43, Io 45 (.bls 1 1 [.str []] [(0, (.k (.str [123])))]), Io 46 (.call 89 [(.t 44), (.t 45)])])
 (.seq (.rg [Ilb 47 1 3, If 48 3 5, Il 49 1 48, Io 50 (.call 255 [(.t 47), (.t 49)])])
 (.rg [If 51 0 3, Il 52 1 51, Io 53 (.bls 1 1 [.str []] [(0, (.k (.str [125])))]), Io 54 (.call 89 [(.t 52), (.t 53)])])))))))⟩
theorem ck240:zh Tryz.prog 240 ir240=true:=by kernel_rfl
def ir241 : AFn := ⟨87, 2, [], .seq (.rg [Ibx 2 0, Ibx 3 1])
 (.seq (.rg [If 6 0 2, Il 7 1 6, If 8 4 3, Il 9 1 8, Iln 10 9, Igi 11 10 0, Im 12 11, Ja 13 12 2 3, Jl 14 12 1 13, Jt 15 12 (.len (.t 14)), Ja 16 12 3 3, Jl 17 12 1 16, Jt 18 12 (.len (.t 17)), Jt 19 12 (.bi .add .i64 (.t 15) (.t 18)), Ja 20 12 5 3, Jl 21 12 1 20, Jt 22 12 (.len (.t 21)), Jt 23 12 (.bi .add .i64 (.t 19) (.t 22)), Jt 24 12 (.bi .eql .i64 (.t 23) (.k (.int .i64 0))), Ipf 25 12 24, Io 26 (.call 45 [(.t 7), (.t 25)])])
 (.seq (.seq (.rg [If 27 0 3, Il 28 1 27, Iei 29 28 3])
 (.cond (.t 29) (.seq (.rg [If 30 0 2, Il 31 1 30, Io 32 (.call 88 [(.t 31), (.k (.str [117, 110, 105, 111, 110]))])])
 (.seq (.rg [If 33 0 2, Il 34 1 33, If 35 1 3, Il 36 1 35, Io 37 (.call 88 [(.t 34), (.t 36)])])
 (.seq (.rg [If 38 0 2, Il 39 1 38, Io 40 (.bls 1 1 [.str []] [(0, (.k (.str [61])))]), Io 41 (.call 89 [(.t 39), (.t 40)])])
 (.seq (.rg [Ilb 42 1 2, If 43 4 3, Il 44 1 43, Io 45 (.call 254 [(.t 42), (.k (.str [124])), (.t 44)])])
 .ret)))) .skip))
 (.seq (.rg [If 46 0 2, Il 47 1 46, Io 48 (.call 88 [(.t 47), (.k (.str [101, 110, 117, 109]))])])
 (.seq (.rg [If 49 0 2, Il 50 1 49, If 51 1 3, Il 52 1 51, Io 53 (.call 88 [(.t 50), (.t 52)])])
 (.seq (.rg [If 54 0 2, Il 55 1 54, Io 56 (.bls 1 1 [.str []] [(0, (.k (.str [123])))]), Io 57 (.call 89 [(.t 55), (.t 56)])])
 (.seq (.seq (.rg [If 58 4 3, Il 59 1 58, Iln 60 59, Imv 61 0])
 (.block 0 (.loop [2, 59, 60, 61] (.seq (.rg [Ilt 62 61 60])
 (.seq (.cond (.t 62) .skip (.exit 0))
 (.seq (.block 1 (.seq (.rg [Iia 63 1 59 61, Il 64 1 63, Im 5 64])
 (.seq (.rg [If 65 0 2, Il 66 1 65, Im 67 5, Io 68 (.bs .neq (.t 67) (.k (.str [116, 114, 117, 101]))), Im 69 68, Jm 70 69 5, Jt 71 69 (.bs .neq (.t 70) (.k (.str [102, 97, 108, 115, 101]))), Ipf 72 69 71, Im 73 72, Jm 74 73 5, Jt 75 73 (.bs .neq (.t 74) (.k (.str [110, 117, 108, 108]))), Ipf 76 73 75, Io 77 (.call 45 [(.t 66), (.t 76)])])
 (.rg [If 78 0 2, Il 79 1 78, Im 80 5, Io 81 (.call 88 [(.t 79), (.t 80)])]))))
 (.rg [Iai 82 61 1, Im 61 82])))))))
 (.rg [If 83 0 2, Il 84 1 83, Io 85 (.bls 1 1 [.str []] [(0, (.k (.str [125])))]), Io 86 (.call 89 [(.t 84), (.t 85)])])))))))⟩
theorem ck241:zh Tryz.prog 241 ir241=true:=by kernel_rfl
def ir242 : AFn := ⟨34, 2, [], .seq (.rg [Ibx 2 0])
 (.seq (.rg [Im 6 1, Iln 7 6, Imv 8 0])
 (.block 0 (.loop [2, 6, 7, 8] (.seq (.rg [Ilt 9 8 7])
 (.seq (.cond (.t 9) .skip (.exit 0))
 (.seq (.block 1 (.seq (.rg [Iia 10 10 6 8, Ilb 11 10 10, Io 5 (.alloc [.str [], .str [], .int .i64 0, .int .i64 0, .bool false, .int .i64 0, .int .i64 0, .str [], .sl .nil 5 [], .sl .nil 6 []]), ⟨none, none, .st 10 (.t 5) (.t 11), []⟩])
 (.seq (.rg [If 12 0 2, Il 13 1 12, If 14 0 5, Il 15 1 14, Io 16 (.call 88 [(.t 13), (.t 15)])])
 (.seq (.rg [If 17 0 2, Il 18 1 17, Io 19 (.bls 1 1 [.str []] [(0, (.k (.str [58])))]), Io 20 (.call 89 [(.t 18), (.t 19)])])
 (.seq (.rg [If 21 0 2, Il 22 1 21, If 23 1 5, Ilb 24 3 23, Io 25 (.call 90 [(.t 22), (.t 24)])])
 (.rg [If 26 0 2, Il 27 1 26, If 28 4 5, Il 29 1 28, If 30 5 5, Ilb 31 5 30, Io 32 (.call 91 [(.t 27), (.t 29), (.t 31)])]))))))
 (.rg [Iai 33 8 1, Im 8 33])))))))⟩
theorem ck242:zh Tryz.prog 242 ir242=true:=by kernel_rfl
def ir243 : AFn := ⟨32, 2, [.t 4], .seq (.rg [Io 4 (.mv (.k (.sl .nil 1 [])))])
 (.scope (.seq (.rg [Imv 5 0])
 (.seq .skip
 (.seq (.seq (.rg [Im 8 0, Iln 9 8, Imv 10 0])
 (.block 0 (.loop [0, 1, 5, 8, 9, 10] (.seq (.rg [Ilt 11 10 9])
 (.seq (.cond (.t 11) .skip (.exit 0))
 (.seq (.block 1 (.seq (.rg [Im 12 10, Iia 13 1 8 10, Il 14 1 13, Im 6 12, Im 7 14])
 (.seq (.block 2 (.seq (.rg [Im 16 7, Im 17 1, Io 18 (.bs .lss (.t 16) (.t 17)), Im 15 18])
 (.cond (.t 15) (.seq (.rg [Im 19 6, Iai 20 19 1, Im 5 20])
 (.exit 1)) (.seq (.rg [Im 22 7, Im 23 1, Io 24 (.bs .eql (.t 22) (.t 23)), Im 21 24])
 (.cond (.t 21) (.seq (.rg [Im 25 0, Im 4 25])
 .ret) .skip)))))
 (.exit 0))))
 (.rg [Iai 26 10 1, Im 10 26])))))))
 (.seq (.rg [Im 27 0, Im 28 5, Im 29 1, Io 30 (.blsm 1 1 [.str []] [(0, (.t 29))]), Io 31 (.call 256 [(.t 27), (.t 28), (.t 30)]), Im 4 31])
 .ret)))))⟩
theorem ck243:zh Tryz.prog 243 ir243=true:=by kernel_rfl
def ir244 : AFn := ⟨88, 1, [.t 2], .seq (.rg [Ibx 1 0, Imb 2 false])
 (.seq (.rg [Ilb 4 5 1, Io 3 (.alloc [.int .i64 0, .int .i64 0, .str [], .sl .nil 5 [], .sl .nil 6 []]), ⟨none, none, .st 5 (.t 3) (.t 4), []⟩])
 (.seq (.rg [If 5 1 3, ⟨none, none, .st 1 (.t 5) (.k (.int .i64 0)), []⟩, If 6 2 3, ⟨none, none, .st 1 (.t 6) (.k (.str [])), []⟩])
 (.seq (.seq (.rg [Ilb 7 5 3, Io 8 (.call 245 [(.t 7)]), Ing 9 8])
 (.cond (.t 9) (.seq (.rg [Imb 2 false])
 .ret) .skip))
 (.seq (.seq (.rg [If 10 0 1, Il 11 1 10])
 (.block 0 (.seq (.rg [Iei 13 11 0, Im 12 13])
 (.cond (.t 12) (.seq (.rg [If 14 1 1, Il 15 1 14, Iei 16 15 0, Im 17 16, Ja 18 17 2 1, Jl 19 17 1 18, Jt 20 17 (.bs .eql (.t 19) (.k (.str []))), Ipf 21 17 20, Im 2 21])
 .ret) (.seq (.rg [Iei 23 11 1, Im 22 23])
 (.cond (.t 22) (.seq (.rg [If 24 1 1, Il 25 1 24, Iei 26 25 0, Im 27 26, Fa 28 27 1 1, Fl 29 27 1 28, Jf 30 27 (.bi .eql .i64 (.t 29) (.k (.int .i64 1))), Ipt 31 27 30, Im 32 31, Ja 33 32 2 1, Jl 34 32 1 33, Jt 35 32 (.bs .eql (.t 34) (.k (.str []))), Ipf 36 32 35, Im 2 36])
 .ret) (.seq (.rg [Iei 38 11 2, Im 37 38])
 (.cond (.t 37) (.seq (.rg [If 39 2 1, Il 40 1 39, Io 41 (.bs .eql (.t 40) (.k (.str []))), Im 2 41])
 .ret) (.seq (.rg [Iei 43 11 3, Im 42 43])
 (.cond (.t 42) (.seq (.rg [If 44 1 1, Il 45 1 44, Iei 46 45 0, Im 47 46, Ja 48 47 2 1, Jl 49 47 1 48, Jt 50 47 (.call 257 [(.t 49)]), Ipf 51 47 50, Im 2 51])
 .ret) (.seq (.rg [Iei 53 11 4, Im 52 53])
 (.cond (.t 52) (.seq (.rg [If 54 1 1, Il 55 1 54, Iei 56 55 0, Im 57 56, Ja 58 57 2 1, Jl 59 57 1 58, Jt 60 57 (.call 231 [(.t 59)]), Ipf 61 57 60, Im 2 61])
 .ret) (.seq (.rg [Iei 63 11 5, Im 62 63])
 (.cond (.t 62) (.seq (.rg [If 64 1 1, Il 65 1 64, Iei 66 65 0, Im 67 66, Ja 68 67 2 1, Jl 69 67 1 68, Jt 70 67 (.call 171 [(.t 69)]), Ipf 71 67 70, Im 72 71, Ja 73 72 2 1, Jl 74 72 1 73, Jt 75 72 (.call 258 [(.t 74)]), Jt 76 72 (.not (.t 75)), Ipf 77 72 76, Im 2 77])
 .ret) (.seq (.rg [Iei 79 11 8, Im 78 79])
 (.cond (.t 78) (.seq (.rg [If 80 1 1, Il 81 1 80, Iei 82 81 0, Im 83 82, Ja 84 83 2 1, Jl 85 83 1 84, Jt 86 83 (.call 171 [(.t 85)]), Ipf 87 83 86, Im 2 87])
 .ret) .skip))))))))))))))))
 (.seq (.rg [Imb 2 false])
 .ret)))))⟩
theorem ck244:zh Tryz.prog 244 ir244=true:=by kernel_rfl
def ir245 : AFn := ⟨23, 1, [.t 2], .seq (.rg [Ibx 1 0, Imb 2 false])
 (.seq (.rg [If 3 1 1, Il 4 1 3, Iei 5 4 0, Im 6 5, Ja 7 6 2 1, Jl 8 6 1 7, Jt 9 6 (.bs .eql (.t 8) (.k (.str []))), Ipf 10 6 9, Im 11 10, Ja 12 11 3 1, Jl 13 11 1 12, Jt 14 11 (.len (.t 13)), Jt 15 11 (.bi .eql .i64 (.t 14) (.k (.int .i64 0))), Ipf 16 11 15, Im 17 16, Ja 18 17 4 1, Jl 19 17 1 18, Jt 20 17 (.len (.t 19)), Jt 21 17 (.bi .eql .i64 (.t 20) (.k (.int .i64 0))), Ipf 22 17 21, Im 2 22])
 .ret)⟩
theorem ck245:zh Tryz.prog 245 ir245=true:=by kernel_rfl
def ir247 : AFn := ⟨74, 3, [.t 6], .seq (.rg [Ibx 3 0, Ibx 5 2, Imb 6 false])
 (.scope (.seq (.seq (.rg [If 15 0 5, Il 16 1 15, Io 17 (.bi .neq .i64 (.t 16) (.k (.int .i64 7)))])
 (.cond (.t 17) (.seq (.rg [Imb 6 false])
 .ret) .skip))
 (.seq (.seq (.rg [If 18 4 5, Il 19 1 18, Iln 20 19, Imv 21 0])
 (.block 0 (.loop [1, 3, 5, 19, 20, 21] (.seq (.rg [Ilt 22 21 20])
 (.seq (.cond (.t 22) .skip (.exit 0))
 (.seq (.block 1 (.seq (.rg [Im 23 21, Iia 24 6 19 21, Ilb 25 6 24, Io 8 (.alloc [.str [], .int .i64 0, .int .i64 0, .str [], .sl .nil 5 [], .sl .nil 6 []]), Im 7 23, ⟨none, none, .st 6 (.t 8) (.t 25), []⟩])
 (.seq (.rg [Im 27 1, If 28 0 8, Il 29 1 28, Io 30 (.call 152 [(.t 27), (.t 29)]), Im 26 30, Iex 31 26 0, Iex 32 26 1, Io 9 (.alloc [.str [], .str [], .int .i64 0, .int .i64 0, .bool false, .int .i64 0, .int .i64 0, .str [], .sl .nil 5 [], .sl .nil 6 []]), ⟨none, none, .st 10 (.t 9) (.t 31), []⟩, Im 10 32])
 (.seq (.rg [Im 33 10, Ing 34 33, Im 35 34, Jf 36 35 (.ld 3 true (.t 3)), Fa 37 35 1 9, Jf 38 35 (.ld 3 true (.t 37)), Fa 39 35 1 8, Jf 40 35 (.ld 5 true (.t 39)), Jf 41 35 (.call 205 [(.t 36), (.t 38), (.t 40), (.k (.bool false))]), Jf 42 35 (.not (.t 41)), Ipt 43 35 42, Im 44 43, Fa 45 44 4 5, Fl 46 44 1 45, Fm 47 44 7, Jf 48 44 (.sll 6 (.t 46) none (some (.t 47)) none), Jf 49 44 (.mkfn 261 [] [(.t 8)]), Jf 50 44 (.call 260 [(.t 48), (.t 49)]), Ipt 51 44 50])
 (.cond (.t 51) (.seq (.rg [Imb 6 false])
 .ret) .skip)))))
 (.rg [Iai 52 21 1, Im 21 52])))))))
 (.seq .skip
 (.seq (.seq (.rg [Im 53 1, Iln 54 53, Imv 55 0])
 (.block 2 (.loop [5, 53, 54, 55] (.seq (.rg [Ilt 56 55 54])
 (.seq (.cond (.t 56) .skip (.exit 2))
 (.seq (.block 3 (.seq (.rg [Iia 57 10 53 55, Ilb 58 10 57, Io 12 (.alloc [.str [], .str [], .int .i64 0, .int .i64 0, .bool false, .int .i64 0, .int .i64 0, .str [], .sl .nil 5 [], .sl .nil 6 []]), ⟨none, none, .st 10 (.t 12) (.t 58), []⟩])
 (.seq (.seq (.rg [If 60 0 12, Il 61 1 60, If 62 4 5, Il 63 1 62, Io 64 (.call 154 [(.t 61), (.t 63)]), Im 59 64, Iex 65 59 0, Iex 66 59 1, Io 13 (.alloc [.int .i64 0, .int .i64 0, .str [], .sl .nil 5 [], .sl .nil 6 []]), ⟨none, none, .st 5 (.t 13) (.t 65), []⟩, Im 14 66])
 (.seq (.rg [Im 67 14, Im 68 67, Jf 69 68 (.ld 10 true (.t 12)), Jf 70 68 (.call 155 [(.t 69)]), Jf 71 68 (.not (.t 70)), Ipt 72 68 71])
 (.cond (.t 72) (.exit 3) .skip)))
 (.seq (.rg [Imb 6 false])
 .ret))))
 (.rg [Iai 73 55 1, Im 55 73])))))))
 (.seq (.rg [Imb 6 true])
 .ret))))))⟩
theorem ck247:zh Tryz.prog 247 ir247=true:=by kernel_rfl
def ir248 : AFn := ⟨101, 4, [.t 8], .seq (.rg [Ibx 4 0, Ibx 5 1, Ibx 7 3, Io 8 (.mv (.k (.sl .nil 5 [])))])
 (.seq (.seq (.rg [If 20 0 7, Il 21 1 20, Iei 22 21 8])
 (.cond (.t 22) (.seq (.rg [If 23 2 7, Il 24 1 23, Ilb 25 3 5, Im 26 2, Io 27 (.bld [.str [], .str [], .int .i64 0, .int .i64 0, .bool false] [(0, 1, (.t 24)), (1, 3, (.t 25)), (4, 1, (.t 26))]), Io 28 (.bls 5 1 [.str [], .str [], .int .i64 0, .int .i64 0, .bool false] [(0, (.t 27))]), Im 8 28])
 .ret) .skip))
 (.seq (.rg [Io 9 (.mv (.k (.sl .nil 5 [])))])
 (.seq (.rg [Ilb 30 3 5, Io 31 (.call 232 [(.t 30)]), Im 29 31, Iex 32 29 0, Iex 33 29 1, Io 10 (.alloc [.str [], .int .i64 0, .int .i64 0]), ⟨none, none, .st 3 (.t 10) (.t 32), []⟩, Im 11 33])
 (.seq (.block 0 (.seq (.rg [Im 35 11, Im 36 35, Ja 37 36 0 7, Jl 38 36 1 37, Jt 39 36 (.bi .eql .i64 (.t 38) (.k (.int .i64 6))), Ipf 40 36 39, Im 34 40])
 (.cond (.t 34) (.seq (.rg [If 41 3 7, Il 42 1 41, Iln 43 42, Imv 44 0])
 (.block 1 (.loop [4, 9, 10, 42, 43, 44] (.seq (.rg [Ilt 45 44 43])
 (.seq (.cond (.t 45) .skip (.exit 1))
 (.seq (.block 2 (.seq (.rg [Iia 46 5 42 44, Ilb 47 5 46, Io 13 (.alloc [.int .i64 0, .int .i64 0, .str [], .sl .nil 5 [], .sl .nil 6 []]), ⟨none, none, .st 5 (.t 13) (.t 47), []⟩])
 (.rg [Im 48 9, Ilb 49 3 4, Ilb 50 3 10, Ilb 51 5 13, Io 52 (.call 248 [(.t 49), (.t 50), (.k (.bool false)), (.t 51)]), Iap 53 5 56 48 52, Im 9 53])))
 (.rg [Iai 54 44 1, Im 44 54]))))))) (.seq (.rg [Im 56 11, Im 55 56])
 (.cond (.t 55) (.seq (.rg [Ilb 57 3 4, Ilb 58 3 10, Ilb 59 5 7, Io 60 (.call 248 [(.t 57), (.t 58), (.k (.bool false)), (.t 59)]), Im 8 60])
 .ret) (.seq (.rg [If 62 0 7, Il 63 1 62, Iei 64 63 7, Im 61 64])
 (.cond (.t 61) (.scope (.seq (.rg [Ilb 66 3 4, If 67 0 5, Il 68 1 67, Io 69 (.call 118 [(.t 66), (.t 68)]), Im 65 69, Iex 70 65 0, Iex 71 65 1, Io 14 (.alloc [.int .i64 0, .str [], .sl .nil 1 [], .sl .nil 6 [], .sl .nil 1 [], .sl .nil 10 []]), ⟨none, none, .st 6 (.t 14) (.t 70), []⟩, Im 15 71])
 (.seq .skip
 (.seq (.rg [If 72 4 7, Il 73 1 72, Iln 74 73, Imv 75 0])
 (.block 3 (.loop [4, 9, 14, 73, 74, 75] (.seq (.rg [Ilt 76 75 74])
 (.seq (.cond (.t 76) .skip (.exit 3))
 (.seq (.block 4 (.seq (.rg [Iia 77 6 73 75, Ilb 78 6 77, Io 17 (.alloc [.str [], .int .i64 0, .int .i64 0, .str [], .sl .nil 5 [], .sl .nil 6 []]), ⟨none, none, .st 6 (.t 17) (.t 78), []⟩])
 (.seq (.rg [If 80 5 14, Il 81 1 80, If 82 0 17, Il 83 1 82, Io 84 (.call 152 [(.t 81), (.t 83)]), Im 79 84, Iex 85 79 0, Iex 86 79 1, Io 18 (.alloc [.str [], .str [], .int .i64 0, .int .i64 0, .bool false, .int .i64 0, .int .i64 0, .str [], .sl .nil 5 [], .sl .nil 6 []]), ⟨none, none, .st 10 (.t 18) (.t 85), []⟩, Im 19 86])
 (.seq (.seq (.rg [Im 87 19, Ing 88 87])
 (.cond (.t 88) (.exit 4) .skip))
 (.rg [Im 89 9, Ilb 90 3 4, If 91 1 18, Ilb 92 3 91, If 93 4 18, Il 94 1 93, If 95 1 17, Ilb 96 5 95, Io 97 (.call 248 [(.t 90), (.t 92), (.t 94), (.t 96)]), Iap 98 5 56 89 97, Im 9 98])))))
 (.rg [Iai 99 75 1, Im 75 99])))))))))) .skip)))))))
 (.seq (.rg [Im 100 9, Im 8 100])
 .ret)))))⟩
theorem ck248:zh Tryz.prog 248 ir248=true:=by kernel_rfl
def ir249 : AFn := ⟨5, 1, [.c 2 2 true], .seq (.rg [Io 2 (.alloc [.int .i64 0, .str []])])
 (.seq (.rg [Im 3 0, Io 4 (.bld [.int .i64 0, .str []] [(0, 1, (.k (.int .i64 2))), (1, 1, (.t 3))]), ⟨none, none, .st 2 (.t 2) (.t 4), []⟩])
 .ret)⟩
theorem ck249:zh Tryz.prog 249 ir249=true:=by kernel_rfl
def ir250 : AFn := ⟨5, 1, [.t 2], .seq (.rg [Io 2 (.mv (.k (.str [])))])
 (.seq (.rg [Im 3 0, Io 4 (.call 262 [(.t 3)]), Im 2 4])
 .ret)⟩
theorem ck250:zh Tryz.prog 250 ir250=true:=by kernel_rfl
def ir252 : AFn := ⟨15, 1, [.t 2], .seq (.rg [Imv 2 0])
 (.seq (.rg [Im 6 0, Io 7 (.call 264 [(.t 6)]), Im 5 7, Iex 8 5 0, Iex 9 5 1, Im 3 8, Im 4 9])
 (.seq (.seq (.rg [Im 10 3, Im 11 0, Ils 12 11, Io 13 (.bi .neq .i64 (.t 10) (.t 12))])
 (.cond (.t 13) (.seq (.rg [Imv 2 0])
 .ret) .skip))
 (.seq (.rg [Im 14 4, Im 2 14])
 .ret)))⟩
theorem ck252:zh Tryz.prog 252 ir252=true:=by kernel_rfl
def ir253 : AFn := ⟨5, 1, [.c 2 2 true], .seq (.rg [Io 2 (.alloc [.int .i64 0, .str []])])
 (.seq (.rg [Im 3 0, Io 4 (.bld [.int .i64 0, .str []] [(0, 1, (.k (.int .i64 1))), (1, 1, (.t 3))]), ⟨none, none, .st 2 (.t 2) (.t 4), []⟩])
 .ret)⟩
theorem ck253:zh Tryz.prog 253 ir253=true:=by kernel_rfl
def ir254 : AFn := ⟨27, 3, [], .seq (.rg [Ibx 3 0])
 (.seq (.rg [Im 8 2, Iln 9 8, Imv 10 0])
 (.block 0 (.loop [1, 3, 8, 9, 10] (.seq (.rg [Ilt 11 10 9])
 (.seq (.cond (.t 11) .skip (.exit 0))
 (.seq (.block 1 (.seq (.rg [Im 12 10, Iia 13 1 8 10, Il 14 1 13, Im 6 12, Im 7 14])
 (.seq (.seq (.rg [Im 15 6, Igi 16 15 0])
 (.cond (.t 16) (.rg [If 17 0 3, Il 18 1 17, Im 19 1, Io 20 (.bls 1 1 [.str []] [(0, (.t 19))]), Io 21 (.call 89 [(.t 18), (.t 20)])]) .skip))
 (.rg [If 22 0 3, Il 23 1 22, Im 24 7, Io 25 (.call 88 [(.t 23), (.t 24)])]))))
 (.rg [Iai 26 10 1, Im 10 26])))))))⟩
theorem ck254:zh Tryz.prog 254 ir254=true:=by kernel_rfl
def ir255 : AFn := ⟨48, 2, [], .seq (.rg [Ibx 2 0])
 (.seq (.rg [Im 6 1, Iln 7 6, Imv 8 0])
 (.block 0 (.loop [2, 6, 7, 8] (.seq (.rg [Ilt 9 8 7])
 (.seq (.cond (.t 9) .skip (.exit 0))
 (.seq (.block 1 (.seq (.rg [Iia 10 6 6 8, Ilb 11 6 10, Io 5 (.alloc [.str [], .sl .nil 10 [], .str [], .int .i64 0, .int .i64 0, .sl .nil 2 []]), ⟨none, none, .st 6 (.t 5) (.t 11), []⟩])
 (.seq (.rg [If 12 0 2, Il 13 1 12, If 14 0 5, Il 15 1 14, Io 16 (.call 88 [(.t 13), (.t 15)])])
 (.seq (.seq (.rg [If 17 1 5, Il 18 1 17, Iln 19 18, Igi 20 19 0])
 (.cond (.t 20) (.seq (.rg [If 21 0 2, Il 22 1 21, Io 23 (.bls 1 1 [.str []] [(0, (.k (.str [40])))]), Io 24 (.call 89 [(.t 22), (.t 23)])])
 (.seq (.rg [Ilb 25 1 2, If 26 1 5, Il 27 1 26, Io 28 (.call 242 [(.t 25), (.t 27)])])
 (.rg [If 29 0 2, Il 30 1 29, Io 31 (.bls 1 1 [.str []] [(0, (.k (.str [41])))]), Io 32 (.call 89 [(.t 30), (.t 31)])]))) .skip))
 (.seq (.rg [If 33 0 2, Il 34 1 33, Io 35 (.bls 1 1 [.str []] [(0, (.k (.str [58])))]), Io 36 (.call 89 [(.t 34), (.t 35)])])
 (.seq (.rg [If 37 0 2, Il 38 1 37, If 39 2 5, Ilb 40 3 39, Io 41 (.call 90 [(.t 38), (.t 40)])])
 (.rg [If 42 0 2, Il 43 1 42, If 44 5 5, Il 45 1 44, Io 46 (.call 92 [(.t 43), (.k (.bool true)), (.t 45)])])))))))
 (.rg [Iai 47 8 1, Im 8 47])))))))⟩
theorem ck255:zh Tryz.prog 255 ir255=true:=by kernel_rfl
def ir257 : AFn := ⟨23, 1, [.t 2], .seq (.rg [Imb 2 false])
 (.seq (.rg [Im 6 0, Io 7 (.call 252 [(.t 6)]), Im 3 7])
 (.seq (.rg [Im 9 0, Io 10 (.call 267 [(.t 9)]), Im 8 10, Iex 11 8 0, Iex 12 8 1, Im 4 11, Im 5 12])
 (.seq (.rg [Im 13 3, Iei 14 13 4, Im 15 14, Fm 16 15 3, Jf 17 15 (.bi .eql .i64 (.t 16) (.k (.int .i64 3))), Fm 18 15 17, Jm 19 18 5, Jt 20 18 (.not (.t 19)), Jf 21 15 (.pick (.t 18) (.t 20) (.k (.bool false))), Ipt 22 15 21, Im 2 22])
 .ret)))⟩
theorem ck257:zh Tryz.prog 257 ir257=true:=by kernel_rfl
def ir258 : AFn := ⟨13, 1, [.t 2], .seq (.rg [Imb 2 false])
 (.seq (.rg [Im 3 0, Io 4 (.bs .eql (.t 3) (.k (.str [116, 114, 117, 101]))), Im 5 4, Fm 6 5 0, Jf 7 5 (.bs .eql (.t 6) (.k (.str [102, 97, 108, 115, 101]))), Ipt 8 5 7, Im 9 8, Fm 10 9 0, Jf 11 9 (.bs .eql (.t 10) (.k (.str [110, 117, 108, 108]))), Ipt 12 9 11, Im 2 12])
 .ret)⟩
theorem ck258:zh Tryz.prog 258 ir258=true:=by kernel_rfl
def ir260 : AFn := ⟨9, 2, [.t 4], .seq (.rg [Imb 4 false])
 (.seq (.rg [Im 5 0, Im 6 1, Io 7 (.call 268 [(.t 5), (.t 6)]), Io 8 (.bi .geq .i64 (.t 7) (.k (.int .i64 0))), Im 4 8])
 .ret)⟩
theorem ck260:zh Tryz.prog 260 ir260=true:=by kernel_rfl
def ir261 : AFn := ⟨9, 2, [.t 3], .seq (.rg [Ibx 2 0, Imb 3 false])
 (.seq (.rg [If 4 0 2, Il 5 1 4, If 6 0 1, Il 7 1 6, Io 8 (.bs .eql (.t 5) (.t 7)), Im 3 8])
 .ret)⟩
theorem ck261:zh Tryz.prog 261 ir261=true:=by kernel_rfl
def ir262 : AFn := ⟨4, 1, [.t 2], .seq (.rg [Io 2 (.mv (.k (.str [])))])
 (.seq (.seq (.rg [Im 3 0])
 (.cond (.t 3) (.seq (.rg [Io 2 (.mv (.k (.str [116, 114, 117, 101])))])
 .ret) .skip))
 (.seq (.rg [Io 2 (.mv (.k (.str [102, 97, 108, 115, 101])))])
 .ret))⟩
theorem ck262:zh Tryz.prog 262 ir262=true:=by kernel_rfl
def ir264 : AFn := ⟨38, 1, [.t 2, .t 3], .seq (.rg [Imv 2 0, Imv 3 0])
 (.seq (.rg [Im 8 0, Io 9 (.call 273 [(.t 8)]), Im 4 9])
 (.seq (.seq (.rg [Im 10 4, Iei 11 10 0])
 (.cond (.t 11) (.seq (.rg [Imv 2 0, Imv 3 0])
 .ret) .skip))
 (.seq (.rg [Imv 5 3])
 (.seq (.seq (.rg [Im 12 0, Im 13 4, Io 14 (.sls (.t 12) (some (.t 13)) none), Io 15 (.call 179 [(.t 14), (.k (.str [46]))])])
 (.cond (.t 15) (.seq (.rg [Im 16 0, Im 17 4, Iai 18 17 1, Io 19 (.sls (.t 16) (some (.t 18)) none), Io 20 (.call 274 [(.t 19)]), Im 6 20])
 (.seq (.rg [Im 21 6, Igi 22 21 0])
 (.cond (.t 22) (.rg [Im 23 4, Iai 24 23 1, Im 25 6, Iad 26 24 25, Im 4 26, Imv 5 4]) .skip))) .skip))
 (.seq (.seq (.rg [Im 27 0, Im 28 4, Io 29 (.sls (.t 27) (some (.t 28)) none), Io 30 (.call 275 [(.t 29)]), Im 7 30])
 (.seq (.rg [Im 31 7, Igi 32 31 0])
 (.cond (.t 32) (.rg [Im 33 4, Im 34 7, Iad 35 33 34, Im 4 35, Imv 5 4]) .skip)))
 (.seq (.rg [Im 36 4, Im 37 5, Im 2 36, Im 3 37])
 .ret))))))⟩
theorem ck264:zh Tryz.prog 264 ir264=true:=by kernel_rfl
def ir267 : AFn := ⟨19, 1, [.t 2, .t 3], .seq (.rg [Imv 2 0, Imb 3 false])
 (.seq (.rg [Im 7 0, Io 8 (.call 277 [(.t 7), (.k (.int .i64 10)), (.k (.int .i64 64))]), Im 6 8, Iex 9 6 0, Iex 10 6 1, Im 4 9, Im 5 10])
 (.seq (.rg [Im 11 4, Im 12 5, Io 13 (.ifnil false (.t 12)), Im 14 13, Jm 15 14 0, Jt 16 14 (.call 252 [(.t 15)]), Jt 17 14 (.bi .eql .i64 (.t 16) (.k (.int .i64 3))), Ipf 18 14 17, Im 2 11, Im 3 18])
 .ret))⟩
theorem ck267:zh Tryz.prog 267 ir267=true:=by kernel_rfl
def ir268 : AFn := ⟨19, 2, [.t 4], .seq (.rg [Imv 4 0])
 (.seq (.seq (.rg [Im 6 0, Iln 7 6, Imv 8 0])
 (.block 0 (.loop [0, 1, 7, 8] (.seq (.rg [Ilt 9 8 7])
 (.seq (.cond (.t 9) .skip (.exit 0))
 (.seq (.block 1 (.seq (.rg [Im 10 8, Im 5 10])
 (.seq (.rg [Im 11 1, Im 12 0, Im 13 5, Iia 14 6 12 13, Ilb 15 6 14, Io 16 (.callv (.t 11) [(.t 15)])])
 (.cond (.t 16) (.seq (.rg [Im 17 5, Im 4 17])
 .ret) .skip))))
 (.rg [Iai 18 8 1, Im 8 18])))))))
 (.seq (.rg [Io 4 (.mv (.k (.int .i64 (-1))))])
 .ret))⟩
theorem ck268:zh Tryz.prog 268 ir268=true:=by kernel_rfl
def ir273 : AFn := ⟨24, 1, [.t 2], .seq (.rg [Imv 2 0])
 (.seq (.rg [Imv 3 0])
 (.seq (.seq (.rg [Im 5 0, Io 6 (.call 179 [(.t 5), (.k (.str [45]))])])
 (.cond (.t 6) (.rg [Imv 3 1]) .skip))
 (.seq (.rg [Im 7 0, Im 8 3, Io 9 (.sls (.t 7) (some (.t 8)) none), Io 10 (.call 274 [(.t 9)]), Im 4 10])
 (.seq (.block 0 (.seq (.rg [Im 12 4, Iei 13 12 0, Im 11 13])
 (.cond (.t 11) (.seq (.rg [Imv 2 0])
 .ret) (.seq (.rg [Im 15 0, Im 16 3, Io 17 (.ixs (.t 15) (.t 16)), Io 18 (.bi .eql .u8 (.t 17) (.k (.int .u8 48))), Im 14 18])
 (.cond (.t 14) (.seq (.rg [Im 19 3, Iai 20 19 1, Im 2 20])
 .ret) .skip)))))
 (.seq (.rg [Im 21 3, Im 22 4, Iad 23 21 22, Im 2 23])
 .ret)))))⟩
theorem ck273:zh Tryz.prog 273 ir273=true:=by kernel_rfl
def ir274 : AFn := ⟨17, 1, [.t 2], .seq (.rg [Imv 2 0])
 (.seq (.rg [Imv 3 0])
 (.seq (.block 0 (.loop [0, 3] (.seq (.seq (.rg [Im 4 3, Im 5 0, Ils 6 5, Ilt 7 4 6, Im 8 7, Jm 9 8 0, Jm 10 8 3, Jt 11 8 (.ixs (.t 9) (.t 10)), Jt 12 8 (.call 213 [(.t 11)]), Ipf 13 8 12])
 (.cond (.t 13) .skip (.exit 0)))
 (.block 1 (.rg [Im 14 3, Iai 15 14 1, Im 3 15])))))
 (.seq (.rg [Im 16 3, Im 2 16])
 .ret)))⟩
theorem ck274:zh Tryz.prog 274 ir274=true:=by kernel_rfl
def ir275 : AFn := ⟨39, 1, [.t 2], .seq (.rg [Imv 2 0])
 (.seq (.seq (.rg [Im 5 0, Io 6 (.bs .eql (.t 5) (.k (.str []))), Im 7 6, Fm 8 7 0, Jf 9 7 (.ixs (.t 8) (.k (.int .i64 0))), Jf 10 7 (.bi .neq .u8 (.t 9) (.k (.int .u8 101))), Fm 11 7 10, Jm 12 11 0, Jt 13 11 (.ixs (.t 12) (.k (.int .i64 0))), Jt 14 11 (.bi .neq .u8 (.t 13) (.k (.int .u8 69))), Jf 15 7 (.pick (.t 11) (.t 14) (.k (.bool false))), Ipt 16 7 15])
 (.cond (.t 16) (.seq (.rg [Imv 2 0])
 .ret) .skip))
 (.seq (.rg [Imv 3 1])
 (.seq (.seq (.rg [Im 17 0, Ils 18 17, Igi 19 18 1, Im 20 19, Jm 21 20 0, Jt 22 20 (.ixs (.t 21) (.k (.int .i64 1))), Jt 23 20 (.bi .eql .u8 (.t 22) (.k (.int .u8 43))), Jm 24 20 23, Fm 25 24 0, Jf 26 24 (.ixs (.t 25) (.k (.int .i64 1))), Jf 27 24 (.bi .eql .u8 (.t 26) (.k (.int .u8 45))), Jt 28 20 (.pick (.t 24) (.k (.bool true)) (.t 27)), Ipf 29 20 28])
 (.cond (.t 29) (.rg [Imv 3 2]) .skip))
 (.seq (.rg [Im 30 0, Im 31 3, Io 32 (.sls (.t 30) (some (.t 31)) none), Io 33 (.call 274 [(.t 32)]), Im 4 33])
 (.seq (.seq (.rg [Im 34 4, Iei 35 34 0])
 (.cond (.t 35) (.seq (.rg [Imv 2 0])
 .ret) .skip))
 (.seq (.rg [Im 36 3, Im 37 4, Iad 38 36 37, Im 2 38])
 .ret))))))⟩
theorem ck275:zh Tryz.prog 275 ir275=true:=by kernel_rfl
end Go.Proofs.YtbjofkamhijjlaaGreatDoor
