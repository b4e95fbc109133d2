import Derived.Test.YticbbfbpeimkbaaGreatDoorRows
import Derived.Test.YticbbfbpeimkbaaGreatDoorM1
import Derived.Test.YticbbfbpeimkbaaGreatDoorM2
import Derived.Test.YticbbfbpeimkbaaGreatDoorM3
set_option maxRecDepth 100000
set_option linter.all false
namespace Go.Proofs.YticbbfbpeimkbaaGreatDoor
open Go.Ab
def ir19 : AFn := ⟨84, 1, [.t 2], .seq (.rg [Imb 2 false])
 (.seq (.seq (.rg [Im 14 0, Ils 15 14, Igi 16 15 3000])
 (.cond (.t 16) (.seq (.rg [Io 17 (.call 25 []), Im 2 17])
 .ret) .skip))
 (.seq (.rg [Im 19 0, Io 20 (.call 40 [(.t 19)]), Im 18 20, Iex 21 18 0, Iex 22 18 1, Io 3 (.alloc [.sl .nil 5 [], .sl .nil 4 []]), ⟨none, none, .st 2 (.t 3) (.t 21), []⟩, Im 4 22])
 (.seq (.seq (.rg [Im 23 4, Io 24 (.bi .neq .i64 (.t 23) (.k (.int .i64 0)))])
 (.cond (.t 24) (.seq (.rg [Io 25 (.call 25 []), Im 2 25])
 .ret) .skip))
 (.seq (.rg [Ilb 27 2 3, Io 28 (.call 32 [(.t 27)]), Im 26 28, Iex 29 26 0, Iex 30 26 1, Im 5 29, Im 6 30])
 (.seq (.seq (.rg [Im 31 6, Ing 32 31])
 (.cond (.t 32) (.seq (.rg [Ilb 34 2 3, Io 35 (.call 27 [(.t 34)]), Im 33 35, Iex 36 33 0, Iex 37 33 1, Im 7 36, Im 8 37])
 (.seq (.rg [Im 39 7, Io 40 (.call 56 [(.t 39)]), Im 38 40, Iex 41 38 0, Iex 42 38 1, Im 9 41, Im 10 42])
 (.seq (.rg [Im 43 8, Im 44 43, Jm 45 44 9, Jt 46 44 (.lens (.t 45)), Jt 47 44 (.bi .gtr .i64 (.t 46) (.k (.int .i64 8192))), Ipf 48 44 47, Im 49 48, Jt 50 49 (.call 25 []), Ipf 51 49 50, Im 2 51])
 .ret))) .skip))
 (.seq (.rg [Im 53 5, Io 54 (.call 40 [(.t 53)]), Im 52 54, Iex 55 52 0, Iex 56 52 1, Io 11 (.alloc [.sl .nil 5 [], .sl .nil 4 []]), ⟨none, none, .st 2 (.t 11) (.t 55), []⟩, Im 4 56])
 (.seq (.rg [Ilb 58 2 11, Io 59 (.call 32 [(.t 58)]), Im 57 59, Iex 60 57 0, Iex 61 57 1, Im 12 60, Im 13 61])
 (.seq (.rg [Ilb 62 2 3, Io 63 (.call 30 [(.t 62)]), Im 64 63, Jm 65 64 4, Jt 66 64 (.bi .eql .i64 (.t 65) (.k (.int .i64 0))), Ipf 67 64 66, Im 68 67, Jt 69 68 (.ld 2 true (.t 11)), Jt 70 68 (.ld 2 true (.t 3)), Jt 71 68 (.call 34 [(.t 69), (.t 70)]), Ipf 72 68 71, Im 73 72, Jm 74 73 13, Ipf 75 73 74, Im 76 75, Jm 77 76 12, Jm 78 76 5, Jt 79 76 (.bs .eql (.t 77) (.t 78)), Ipf 80 76 79, Im 81 80, Jt 82 81 (.call 25 []), Ipf 83 81 82, Im 2 83])
 .ret))))))))⟩
theorem ck19:zw Tryz.prog 19 ir19=true:=by kernel_rfl
def ir25 : AFn := ⟨29, 0, [.t 0], .seq (.rg [Imb 0 false])
 (.seq (.rg [Io 4 (.bld [.int .i64 0, .str [], .str [], .sl .nil 6 [], .sl .nil 2 [], .str [], .sl .nil 7 []] [(2, 1, (.k (.str [97])))]), Io 5 (.bld [.int .i64 0, .str [], .str [], .sl .nil 6 [], .sl .nil 2 [], .str [], .sl .nil 7 []] [(1, 1, (.k (.str [98]))), (2, 1, (.k (.str [99])))]), Io 6 (.bls 7 2 [.int .i64 0, .str [], .str [], .sl .nil 6 [], .sl .nil 2 [], .str [], .sl .nil 7 []] [(0, (.t 4)), (1, (.t 5))]), Io 7 (.bld [.int .i64 0, .str [], .sl .nil 10 [], .sl .nil 2 [], .sl .nil 7 []] [(4, 1, (.t 6))]), Io 8 (.bls 5 1 [.int .i64 0, .str [], .sl .nil 10 [], .sl .nil 2 [], .sl .nil 7 []] [(0, (.t 7))]), Io 9 (.bld [.sl .nil 5 [], .sl .nil 4 []] [(0, 1, (.t 8))]), Io 1 (.alloc [.sl .nil 5 [], .sl .nil 4 []]), ⟨none, none, .st 2 (.t 1) (.t 9), []⟩])
 (.seq (.rg [Ilb 11 2 1, Io 12 (.call 32 [(.t 11)]), Im 10 12, Iex 13 10 0, Iex 14 10 1, Im 2 13, Im 3 14])
 (.seq (.rg [Im 15 3, Im 16 15, Jm 17 16 2, Jt 18 16 (.bs .eql (.t 17) (.k (.str [113, 117, 101, 114, 121, 32, 123, 32, 97, 32, 98, 32, 58, 32, 99, 32, 125]))), Ipf 19 16 18, Im 20 19, Jt 21 20 (.ld 2 true (.t 1)), Jt 22 20 (.call 30 [(.t 21)]), Ipf 23 20 22, Im 24 23, Jt 25 24 (.bld [.sl .nil 5 [], .sl .nil 4 []] []), Jt 26 24 (.call 30 [(.t 25)]), Jt 27 24 (.not (.t 26)), Ipf 28 24 27, Im 0 28])
 .ret)))⟩
theorem ck25:zw Tryz.prog 25 ir25=true:=by kernel_rfl
def ir27 : AFn := ⟨51, 1, [.t 2, .t 3], .seq (.rg [Ibx 1 0, Io 2 (.mv (.k (.sl .nil 2 []))), Imb 3 false])
 (.seq (.rg [Io 9 (.call 69 []), Im 4 9])
 (.seq (.rg [Im 10 4, If 11 0 1, Il 12 1 11, Iln 13 12, If 14 1 1, Il 15 1 14, Iln 16 15, Iad 17 13 16, Igi 18 17 0, Io 19 (.call 70 [(.t 10), (.t 18)])])
 (.seq (.seq (.rg [If 20 0 1, Il 21 1 20, Iln 22 21, Imv 23 0])
 (.block 0 (.loop [1, 4, 21, 22, 23] (.seq (.rg [Ilt 24 23 22])
 (.seq (.cond (.t 24) .skip (.exit 0))
 (.seq (.block 1 (.seq (.rg [Iia 25 5 21 23, Ilb 26 5 25, Io 6 (.alloc [.int .i64 0, .str [], .sl .nil 10 [], .sl .nil 2 [], .sl .nil 7 []]), ⟨none, none, .st 5 (.t 6) (.t 26), []⟩])
 (.rg [Im 27 4, Ilb 28 5 6, Io 29 (.call 71 [(.t 27), (.t 28)])])))
 (.rg [Iai 30 23 1, Im 23 30])))))))
 (.seq (.seq (.rg [If 31 1 1, Il 32 1 31, Iln 33 32, Imv 34 0])
 (.block 2 (.loop [4, 32, 33, 34] (.seq (.rg [Ilt 35 34 33])
 (.seq (.cond (.t 35) .skip (.exit 2))
 (.seq (.block 3 (.seq (.rg [Iia 36 4 32 34, Ilb 37 4 36, Io 8 (.alloc [.str [], .str [], .sl .nil 2 [], .sl .nil 7 []]), ⟨none, none, .st 4 (.t 8) (.t 37), []⟩])
 (.rg [Im 38 4, Ilb 39 4 8, Io 40 (.call 72 [(.t 38), (.t 39)])])))
 (.rg [Iai 41 34 1, Im 34 41])))))))
 (.seq (.seq (.rg [Im 42 4, Ink 43 42, If 44 1 43, Il 45 1 44, Ing 46 45])
 (.cond (.t 46) (.seq (.rg [Io 2 (.mv (.k (.sl .nil 2 []))), Imb 3 false])
 .ret) .skip))
 (.seq (.rg [Im 47 4, Ink 48 47, If 49 0 48, Il 50 1 49, Im 2 50, Imb 3 true])
 .ret))))))⟩
theorem ck27:zw Tryz.prog 27 ir27=true:=by kernel_rfl
def ir30 : AFn := ⟨11, 1, [.t 2], .seq (.rg [Ibx 1 0, Imb 2 false])
 (.seq (.rg [Ilb 6 2 1, Io 7 (.call 27 [(.t 6)]), Im 5 7, Iex 8 5 0, Iex 9 5 1, Im 3 8, Im 4 9])
 (.seq (.rg [Im 10 4, Im 2 10])
 .ret))⟩
theorem ck30:zw Tryz.prog 30 ir30=true:=by kernel_rfl
def ir32 : AFn := ⟨30, 1, [.t 2, .t 3], .seq (.rg [Ibx 1 0, Io 2 (.mv (.k (.str []))), Imb 3 false])
 (.seq (.rg [Ilb 9 2 1, Io 10 (.call 27 [(.t 9)]), Im 8 10, Iex 11 8 0, Iex 12 8 1, Im 4 11, Im 5 12])
 (.seq (.rg [Im 14 4, Io 15 (.call 56 [(.t 14)]), Im 13 15, Iex 16 13 0, Iex 17 13 1, Im 6 16, Im 7 17])
 (.seq (.seq (.rg [Im 18 5, Ing 19 18, Im 20 19, Fm 21 20 7, Jf 22 20 (.not (.t 21)), Ipt 23 20 22, Im 24 23, Fm 25 24 6, Jf 26 24 (.lens (.t 25)), Jf 27 24 (.bi .gtr .i64 (.t 26) (.k (.int .i64 8192))), Ipt 28 24 27])
 (.cond (.t 28) (.seq (.rg [Io 2 (.mv (.k (.str []))), Imb 3 false])
 .ret) .skip))
 (.seq (.rg [Im 29 6, Im 2 29, Imb 3 true])
 .ret))))⟩
theorem ck32:zw Tryz.prog 32 ir32=true:=by kernel_rfl
def ir34 : AFn := ⟨61, 2, [.t 4], .seq (.rg [Ibx 2 0, Ibx 3 1, Imb 4 false])
 (.seq (.seq (.rg [If 7 0 2, Il 8 1 7, Iln 9 8, If 10 0 3, Il 11 1 10, Iln 12 11, Io 13 (.bi .neq .i64 (.t 9) (.t 12)), Im 14 13, Fa 15 14 1 2, Fl 16 14 1 15, Jf 17 14 (.len (.t 16)), Fa 18 14 1 3, Fl 19 14 1 18, Jf 20 14 (.len (.t 19)), Jf 21 14 (.bi .neq .i64 (.t 17) (.t 20)), Ipt 22 14 21])
 (.cond (.t 22) (.seq (.rg [Imb 4 false])
 .ret) .skip))
 (.seq (.seq (.rg [Imv 5 0])
 (.block 0 (.loop [2, 3, 5] (.seq (.seq (.rg [Im 23 5, If 24 0 2, Il 25 1 24, Iln 26 25, Ilt 27 23 26])
 (.cond (.t 27) .skip (.exit 0)))
 (.seq (.block 1 (.seq (.reg [0, 1, 2, 3, 4, 5, 6, 7, 8, 9, 10, 11] [If 30 0 2, Il 31 1 30, Im 32 5, Iia 33 5 31 32, Ilb 34 5 33, If 35 0 3, Il 36 1 35, Im 37 5, Iia 38 5 36 37, Ilb 39 5 38, Io 40 (.call 85 [(.t 34), (.t 39)]), Ing 41 40])
 (.cond (.t 41) (.seq (.rg [Imb 4 false])
 .ret) .skip)))
 (.rg [Im 28 5, Iai 29 28 1, Im 5 29]))))))
 (.seq (.seq (.rg [Imv 6 0])
 (.block 2 (.loop [2, 3, 6] (.seq (.seq (.rg [Im 42 6, If 43 1 2, Il 44 1 43, Iln 45 44, Ilt 46 42 45])
 (.cond (.t 46) .skip (.exit 2)))
 (.seq (.block 3 (.seq (.reg [0, 1, 2, 3, 4, 5, 6, 7, 8, 9, 10, 11] [If 49 1 2, Il 50 1 49, Im 51 6, Iia 52 4 50 51, Ilb 53 4 52, If 54 1 3, Il 55 1 54, Im 56 6, Iia 57 4 55 56, Ilb 58 4 57, Io 59 (.call 86 [(.t 53), (.t 58)]), Ing 60 59])
 (.cond (.t 60) (.seq (.rg [Imb 4 false])
 .ret) .skip)))
 (.rg [Im 47 6, Iai 48 47 1, Im 6 48]))))))
 (.seq (.rg [Imb 4 true])
 .ret))))⟩
theorem ck34:zw Tryz.prog 34 ir34=true:=by kernel_rfl
def ir40 : AFn := ⟨14, 1, [.c 2 2 true, .t 3], .seq (.rg [Io 2 (.alloc [.sl .nil 5 [], .sl .nil 4 []]), Imv 3 0])
 (.seq (.rg [Io 4 (.alloc [.sl .nil 5 [], .sl .nil 4 []])])
 (.seq (.rg [Im 6 0, Io 7 (.mkfn 90 [] [(.t 4)]), Io 8 (.call 89 [(.t 6), (.t 7)]), Im 5 8])
 (.seq (.seq (.rg [Im 9 5, Io 10 (.bi .neq .i64 (.t 9) (.k (.int .i64 0)))])
 (.cond (.t 10) (.seq (.rg [Io 11 (.bld [.sl .nil 5 [], .sl .nil 4 []] []), Im 12 5, ⟨none, none, .st 2 (.t 2) (.t 11), []⟩, Im 3 12])
 .ret) .skip))
 (.seq (.rg [Ilb 13 2 4, ⟨none, none, .st 2 (.t 2) (.t 13), []⟩, Imv 3 0])
 .ret))))⟩
theorem ck40:zw Tryz.prog 40 ir40=true:=by kernel_rfl
def ir46 : AFn := ⟨58, 2, [.t 4], .seq (.rg [Ibx 2 0, Ibx 3 1, Imb 4 false])
 (.seq (.seq (.rg [If 6 0 2, Il 7 1 6, If 8 0 3, Il 9 1 8, Io 10 (.bi .neq .i64 (.t 7) (.t 9)), Im 11 10, Fa 12 11 1 2, Fl 13 11 1 12, Fa 14 11 1 3, Fl 15 11 1 14, Jf 16 11 (.bi .neq .i64 (.t 13) (.t 15)), Ipt 17 11 16, Im 18 17, Fa 19 18 2 2, Fl 20 18 1 19, Fa 21 18 2 3, Fl 22 18 1 21, Jf 23 18 (.bs .neq (.t 20) (.t 22)), Ipt 24 18 23, Im 25 24, Fa 26 25 3 2, Fl 27 25 1 26, Jf 28 25 (.len (.t 27)), Fa 29 25 3 3, Fl 30 25 1 29, Jf 31 25 (.len (.t 30)), Jf 32 25 (.bi .neq .i64 (.t 28) (.t 31)), Ipt 33 25 32])
 (.cond (.t 33) (.seq (.rg [Imb 4 false])
 .ret) .skip))
 (.seq (.seq (.rg [Imv 5 0])
 (.block 0 (.loop [2, 3, 5] (.seq (.seq (.rg [Im 34 5, If 35 3 2, Il 36 1 35, Iln 37 36, Ilt 38 34 37])
 (.cond (.t 38) .skip (.exit 0)))
 (.seq (.block 1 (.seq (.reg [0, 1, 2, 3, 4, 5, 6, 7, 8, 9, 10, 11] [If 41 3 2, Il 42 1 41, Im 43 5, Iia 44 5 42 43, Ilb 45 5 44, If 46 3 3, Il 47 1 46, Im 48 5, Iia 49 5 47 48, Ilb 50 5 49, Io 51 (.call 46 [(.t 45), (.t 50)]), Ing 52 51])
 (.cond (.t 52) (.seq (.rg [Imb 4 false])
 .ret) .skip)))
 (.rg [Im 39 5, Iai 40 39 1, Im 5 40]))))))
 (.seq (.rg [If 53 4 2, Il 54 1 53, If 55 4 3, Il 56 1 55, Io 57 (.call 102 [(.t 54), (.t 56)]), Im 4 57])
 .ret)))⟩
theorem ck46:zw Tryz.prog 46 ir46=true:=by kernel_rfl
def ir55 : AFn := ⟨9, 1, [.t 2, .t 3], .seq (.rg [Ibx 1 0, Io 2 (.mv (.k (.sl .nil 2 []))), Imb 3 false])
 (.seq (.seq (.rg [Ilb 4 5 1, Io 5 (.call 117 [(.t 4)]), Ing 6 5])
 (.cond (.t 6) (.seq (.rg [Io 2 (.mv (.k (.sl .nil 2 []))), Imb 3 false])
 .ret) .skip))
 (.seq (.rg [Ilb 7 5 1, Io 8 (.call 118 [(.k (.sl .nil 2 [])), (.t 7)]), Im 2 8, Imb 3 true])
 .ret))⟩
theorem ck55:zw Tryz.prog 55 ir55=true:=by kernel_rfl
def ir56 : AFn := ⟨35, 1, [.t 2, .t 3], .seq (.rg [Io 2 (.mv (.k (.str []))), Imb 3 false])
 (.seq (.rg [Io 4 (.mv (.k (.sl .nil 1 [])))])
 (.seq (.seq (.rg [Im 7 0, Iln 8 7, Imv 9 0])
 (.block 0 (.loop [4, 7, 8, 9] (.seq (.rg [Ilt 10 9 8])
 (.seq (.cond (.t 10) .skip (.exit 0))
 (.seq (.block 1 (.seq (.rg [Iia 11 2 7 9, Ilb 12 2 11, Io 6 (.alloc [.int .i64 0, .str []]), ⟨none, none, .st 2 (.t 6) (.t 12), []⟩])
 (.block 2 (.seq (.rg [Ilb 19 2 6, Io 20 (.call 119 [(.t 19)]), Ing 21 20, Im 18 21])
 (.cond (.t 18) (.seq (.rg [Io 2 (.mv (.k (.str []))), Imb 3 false])
 .ret) (.seq (.rg [If 23 0 6, Il 24 1 23, Iei 25 24 5, Im 22 25])
 (.cond (.t 22) (.rg [Im 26 4, If 27 1 6, Il 28 1 27, Io 29 (.call 120 [(.t 28)]), Io 30 (.bls 1 1 [.str []] [(0, (.t 29))]), Iap 31 1 16 26 30, Im 4 31]) (.rg [Im 13 4, If 14 1 6, Il 15 1 14, Io 16 (.bls 1 1 [.str []] [(0, (.t 15))]), Iap 17 1 16 13 16, Im 4 17]))))))))
 (.rg [Iai 32 9 1, Im 9 32])))))))
 (.seq (.rg [Im 33 4, Io 34 (.call 121 [(.t 33), (.k (.str [32]))]), Im 2 34, Imb 3 true])
 .ret)))⟩
theorem ck56:zw Tryz.prog 56 ir56=true:=by kernel_rfl
def ir57 : AFn := ⟨47, 1, [.t 2, .t 3], .seq (.rg [Io 2 (.mv (.k (.sl .nil 2 []))), Imv 3 0])
 (.scope (.seq (.block 0 (.seq (.rg [Im 10 0, Ils 11 10, Igi 12 11 8192, Im 9 12])
 (.cond (.t 9) (.seq (.rg [Io 2 (.mv (.k (.sl .nil 2 []))), Imv 3 3])
 .ret) (.seq (.rg [Im 14 0, Io 15 (.call 122 [(.t 14)]), Ing 16 15, Im 13 16])
 (.cond (.t 13) (.seq (.rg [Io 2 (.mv (.k (.sl .nil 2 []))), Imv 3 2])
 .ret) .skip)))))
 (.seq (.rg [Io 4 (.mv (.k (.sl .nil 2 [])))])
 (.seq .skip
 (.seq (.seq (.rg [Imv 5 0])
 (.block 1 (.loop [0, 4, 5] (.seq (.seq (.rg [Im 17 5, Im 18 0, Ils 19 18, Ilt 20 17 19])
 (.cond (.t 20) .skip (.exit 1)))
 (.block 2 (.seq (.seq (.rg [Im 21 0, Im 22 5, Io 23 (.sls (.t 21) (some (.t 22)) none), Io 24 (.call 123 [(.t 23)]), Im 6 24])
 (.seq (.rg [Im 25 6, Igi 26 25 0])
 (.cond (.t 26) (.seq (.rg [Im 27 5, Im 28 6, Iad 29 27 28, Im 5 29])
 (.exit 2)) .skip)))
 (.seq (.rg [Im 31 0, Im 32 5, Io 33 (.sls (.t 31) (some (.t 32)) none), Io 34 (.call 124 [(.t 33)]), Im 30 34, Iex 35 30 0, Iex 36 30 1, Io 7 (.alloc [.int .i64 0, .str []]), ⟨none, none, .st 2 (.t 7) (.t 35), []⟩, Im 8 36])
 (.seq (.seq (.rg [Im 37 8, Iei 38 37 0])
 (.cond (.t 38) (.seq (.rg [Io 2 (.mv (.k (.sl .nil 2 []))), Imv 3 2])
 .ret) .skip))
 (.seq (.rg [Im 39 4, Ilb 40 2 7, Io 41 (.bls 2 1 [.int .i64 0, .str []] [(0, (.t 40))]), Iap 42 2 24 39 41, Im 4 42])
 (.rg [Im 43 5, Im 44 8, Iad 45 43 44, Im 5 45]))))))))))
 (.seq (.rg [Im 46 4, Im 2 46, Imv 3 0])
 .ret))))))⟩
theorem ck57:zw Tryz.prog 57 ir57=true:=by kernel_rfl
def ir59 : AFn := ⟨38, 2, [.t 4], .seq (.rg [Ibx 2 0, Ibx 3 1, Imb 4 false])
 (.seq (.rg [If 5 0 2, Il 6 1 5, If 7 0 3, Il 8 1 7, Io 9 (.bi .eql .i64 (.t 6) (.t 8)), Im 10 9, Ja 11 10 1 2, Jl 12 10 1 11, Ja 13 10 1 3, Jl 14 10 1 13, Jt 15 10 (.bi .eql .i64 (.t 12) (.t 14)), Ipf 16 10 15, Im 17 16, Ja 18 17 2 2, Jl 19 17 1 18, Ja 20 17 2 3, Jl 21 17 1 20, Jt 22 17 (.bs .eql (.t 19) (.t 21)), Ipf 23 17 22, Im 24 23, Ja 25 24 3 2, Jl 26 24 1 25, Ja 27 24 3 3, Jl 28 24 1 27, Jt 29 24 (.call 128 [(.t 26), (.t 28), (.k (.clo 59 [] []))]), Ipf 30 24 29, Im 31 30, Ja 32 31 4 2, Jl 33 31 1 32, Ja 34 31 4 3, Jl 35 31 1 34, Jt 36 31 (.call 129 [(.t 33), (.t 35), (.k (.clo 130 [] []))]), Ipf 37 31 36, Im 4 37])
 .ret)⟩
theorem ck59:zw Tryz.prog 59 ir59=true:=by kernel_rfl
def ir60 : AFn := ⟨5, 1, [.t 2], .seq (.rg [Ibx 1 0, Io 2 (.mv (.k (.sl .nil 1 [])))])
 (.seq (.rg [Ilb 3 5 1, Io 4 (.call 131 [(.k (.sl .nil 1 [])), (.t 3)]), Im 2 4])
 .ret)⟩
theorem ck60:zw Tryz.prog 60 ir60=true:=by kernel_rfl
def ir69 : AFn := ⟨3, 0, [.t 0], .seq (.rg [Io 0 (.mv (.k (.nilp)))])
 (.seq (.rg [Io 1 (.bld [.sl .nil 2 [], .bool false, .int .i64 0] [(1, 1, (.k (.bool true)))]), Io 2 (.box (.t 1)), Im 0 2])
 .ret)⟩
theorem ck69:zw Tryz.prog 69 ir69=true:=by kernel_rfl
def ir70:AFn:=⟨14,2,[],.rg [Im 4 0,Im 5 0,Ink 6 5,If 7 1 6,Il 8 1 7,Im 9 8,Jm 10 9 1,Ipf 11 9 10,Ink 12 4,If 13 1 12,⟨none,none,.st 1 (.t 13) (.t 11),[]⟩]⟩
theorem ck70:zw Tryz.prog 70 ir70=true:=by kernel_rfl
def ir71 : AFn := ⟨71, 2, [], .seq (.rg [Ibx 3 1])
 (.seq (.seq (.rg [If 6 0 3, Il 7 1 6])
 (.block 0 (.seq (.rg [Iei 11 7 0, Im 10 11])
 (.cond (.t 10) (.rg [Im 12 0, Io 13 (.call 139 [(.t 12), (.k (.str [113, 117, 101, 114, 121]))])]) (.seq (.rg [Iei 15 7 1, Im 14 15])
 (.cond (.t 14) (.rg [Im 16 0, Io 17 (.call 139 [(.t 16), (.k (.str [109, 117, 116, 97, 116, 105, 111, 110]))])]) (.rg [Im 8 0, Io 9 (.call 70 [(.t 8), (.k (.bool false))])])))))))
 (.seq (.seq (.rg [If 18 1 3, Il 19 1 18, Io 20 (.bs .neq (.t 19) (.k (.str [])))])
 (.cond (.t 20) (.rg [Im 21 0, If 22 1 3, Il 23 1 22, Io 24 (.call 139 [(.t 21), (.t 23)])]) .skip))
 (.seq (.seq (.rg [If 25 2 3, Il 26 1 25, Iln 27 26, Igi 28 27 0])
 (.cond (.t 28) (.seq (.rg [Im 29 0, Io 30 (.bls 1 1 [.str []] [(0, (.k (.str [40])))]), Io 31 (.call 140 [(.t 29), (.t 30)])])
 (.seq (.seq (.rg [If 32 2 3, Il 33 1 32, Iln 34 33, Imv 35 0])
 (.block 1 (.loop [0, 3, 33, 34, 35] (.seq (.rg [Ilt 36 35 34])
 (.seq (.cond (.t 36) .skip (.exit 1))
 (.seq (.block 2 (.seq (.rg [Iia 37 10 33 35, Ilb 38 10 37, Io 5 (.alloc [.str [], .str [], .int .i64 0, .int .i64 0, .bool false, .int .i64 0, .int .i64 0, .str [], .sl .nil 5 [], .sl .nil 6 []]), ⟨none, none, .st 10 (.t 5) (.t 38), []⟩])
 (.seq (.rg [Im 39 0, Io 40 (.bls 1 1 [.str []] [(0, (.k (.str [36])))]), Io 41 (.call 140 [(.t 39), (.t 40)])])
 (.seq (.rg [Im 42 0, If 43 0 5, Il 44 1 43, Io 45 (.call 139 [(.t 42), (.t 44)])])
 (.seq (.rg [Im 46 0, Io 47 (.bls 1 1 [.str []] [(0, (.k (.str [58])))]), Io 48 (.call 140 [(.t 46), (.t 47)])])
 (.seq (.rg [Im 49 0, If 50 1 5, Ilb 51 3 50, Io 52 (.call 141 [(.t 49), (.t 51)])])
 (.rg [Im 53 0, If 54 4 5, Il 55 1 54, If 56 5 5, Ilb 57 5 56, Io 58 (.call 142 [(.t 53), (.t 55), (.t 57)])])))))))
 (.rg [Iai 59 35 1, Im 35 59])))))))
 (.rg [Im 60 0, Io 61 (.bls 1 1 [.str []] [(0, (.k (.str [41])))]), Io 62 (.call 140 [(.t 60), (.t 61)])]))) .skip))
 (.seq (.rg [Im 63 0, If 64 3 3, Il 65 1 64, Io 66 (.call 143 [(.t 63), (.k (.bool true)), (.t 65)])])
 (.rg [Im 67 0, If 68 4 3, Il 69 1 68, Io 70 (.call 144 [(.t 67), (.t 69)])])))))⟩
theorem ck71:zw Tryz.prog 71 ir71=true:=by kernel_rfl
def ir72 : AFn := ⟨29, 2, [], .seq (.rg [Ibx 3 1])
 (.seq (.rg [Im 4 0, If 5 0 3, Il 6 1 5, Io 7 (.bs .neq (.t 6) (.k (.str [111, 110]))), Io 8 (.call 70 [(.t 4), (.t 7)])])
 (.seq (.rg [Im 9 0, Io 10 (.call 139 [(.t 9), (.k (.str [102, 114, 97, 103, 109, 101, 110, 116]))])])
 (.seq (.rg [Im 11 0, If 12 0 3, Il 13 1 12, Io 14 (.call 139 [(.t 11), (.t 13)])])
 (.seq (.rg [Im 15 0, Io 16 (.call 139 [(.t 15), (.k (.str [111, 110]))])])
 (.seq (.rg [Im 17 0, If 18 1 3, Il 19 1 18, Io 20 (.call 139 [(.t 17), (.t 19)])])
 (.seq (.rg [Im 21 0, If 22 2 3, Il 23 1 22, Io 24 (.call 143 [(.t 21), (.k (.bool true)), (.t 23)])])
 (.rg [Im 25 0, If 26 3 3, Il 27 1 26, Io 28 (.call 144 [(.t 25), (.t 27)])])))))))⟩
theorem ck72:zw Tryz.prog 72 ir72=true:=by kernel_rfl
def ir85 : AFn := ⟨89, 2, [.t 4], .seq (.rg [Ibx 2 0, Ibx 3 1, Imb 4 false])
 (.seq (.seq (.rg [If 8 0 2, Il 9 1 8, If 10 0 3, Il 11 1 10, Io 12 (.bi .neq .i64 (.t 9) (.t 11)), Im 13 12, Fa 14 13 1 2, Fl 15 13 1 14, Fa 16 13 1 3, Fl 17 13 1 16, Jf 18 13 (.bs .neq (.t 15) (.t 17)), Ipt 19 13 18, Im 20 19, Fa 21 20 2 2, Fl 22 20 1 21, Jf 23 20 (.len (.t 22)), Fa 24 20 2 3, Fl 25 20 1 24, Jf 26 20 (.len (.t 25)), Jf 27 20 (.bi .neq .i64 (.t 23) (.t 26)), Ipt 28 20 27, Im 29 28, Fa 30 29 3 2, Fl 31 29 1 30, Fa 32 29 3 3, Fl 33 29 1 32, Jf 34 29 (.call 153 [(.t 31), (.t 33)]), Jf 35 29 (.not (.t 34)), Ipt 36 29 35, Im 37 36, Fa 38 37 4 2, Fl 39 37 1 38, Fa 40 37 4 3, Fl 41 37 1 40, Jf 42 37 (.call 154 [(.t 39), (.t 41)]), Jf 43 37 (.not (.t 42)), Ipt 44 37 43])
 (.cond (.t 44) (.seq (.rg [Imb 4 false])
 .ret) .skip))
 (.seq (.seq (.rg [Imv 5 0])
 (.block 0 (.loop [2, 3, 5] (.seq (.seq (.rg [Im 45 5, If 46 2 2, Il 47 1 46, Iln 48 47, Ilt 49 45 48])
 (.cond (.t 49) .skip (.exit 0)))
 (.seq (.block 1 (.seq (.reg [0, 1, 2, 3, 4, 5, 6, 7, 8, 9, 10, 11, 12, 13] [If 52 2 2, Il 53 1 52, Im 54 5, Iia 55 10 53 54, Ilb 56 10 55, If 57 2 3, Il 58 1 57, Im 59 5, Iia 60 10 58 59, Ilb 61 10 60, Io 6 (.alloc [.str [], .str [], .int .i64 0, .int .i64 0, .bool false, .int .i64 0, .int .i64 0, .str [], .sl .nil 5 [], .sl .nil 6 []]), Io 7 (.alloc [.str [], .str [], .int .i64 0, .int .i64 0, .bool false, .int .i64 0, .int .i64 0, .str [], .sl .nil 5 [], .sl .nil 6 []]), ⟨none, none, .st 10 (.t 6) (.t 56), [6, 9]⟩, ⟨none, none, .st 10 (.t 7) (.t 61), []⟩])
 (.seq (.rg [If 62 0 6, Il 63 1 62, If 64 0 7, Il 65 1 64, Io 66 (.bs .neq (.t 63) (.t 65)), Im 67 66, Fa 68 67 1 6, Jf 69 67 (.ld 3 true (.t 68)), Fa 70 67 1 7, Jf 71 67 (.ld 3 true (.t 70)), Jf 72 67 (.eqa true [.s, (.i .i64), (.i .i64)] (.t 69) (.t 71)), Ipt 73 67 72, Im 74 73, Fa 75 74 4 6, Fl 76 74 1 75, Fa 77 74 4 7, Fl 78 74 1 77, Jf 79 74 (.bb true (.t 76) (.t 78)), Ipt 80 74 79, Im 81 80, Fa 82 81 5 6, Jf 83 81 (.ld 5 true (.t 82)), Fa 84 81 5 7, Jf 85 81 (.ld 5 true (.t 84)), Jf 86 81 (.call 46 [(.t 83), (.t 85)]), Jf 87 81 (.not (.t 86)), Ipt 88 81 87])
 (.cond (.t 88) (.seq (.rg [Imb 4 false])
 .ret) .skip))))
 (.rg [Im 50 5, Iai 51 50 1, Im 5 51]))))))
 (.seq (.rg [Imb 4 true])
 .ret)))⟩
theorem ck85:zw Tryz.prog 85 ir85=true:=by kernel_rfl
def ir86 : AFn := ⟨31, 2, [.t 4], .seq (.rg [Ibx 2 0, Ibx 3 1, Imb 4 false])
 (.seq (.rg [If 5 0 2, Il 6 1 5, If 7 0 3, Il 8 1 7, Io 9 (.bs .eql (.t 6) (.t 8)), Im 10 9, Ja 11 10 1 2, Jl 12 10 1 11, Ja 13 10 1 3, Jl 14 10 1 13, Jt 15 10 (.bs .eql (.t 12) (.t 14)), Ipf 16 10 15, Im 17 16, Ja 18 17 2 2, Jl 19 17 1 18, Ja 20 17 2 3, Jl 21 17 1 20, Jt 22 17 (.call 153 [(.t 19), (.t 21)]), Ipf 23 17 22, Im 24 23, Ja 25 24 3 2, Jl 26 24 1 25, Ja 27 24 3 3, Jl 28 24 1 27, Jt 29 24 (.call 154 [(.t 26), (.t 28)]), Ipf 30 24 29, Im 4 30])
 .ret)⟩
theorem ck86:zw Tryz.prog 86 ir86=true:=by kernel_rfl
def ir87 : AFn := ⟨82, 2, [], .scope (.seq (.rg [Im 6 0, Im 7 1, Iln 8 7, Igi 9 8 0, Im 10 9, Jm 11 10 0, Jt 12 10 (.nilchk (.t 11)), Ja 13 10 2 12, Jl 14 10 1 13, Jt 15 10 (.bi .leq .i64 (.t 14) (.k (.int .i64 16))), Ipf 16 10 15, Io 17 (.call 70 [(.t 6), (.t 16)])])
 (.seq .skip
 (.seq (.rg [Im 18 1, Iln 19 18, Imv 20 0])
 (.block 0 (.loop [0, 18, 19, 20] (.seq (.rg [Ilt 21 20 19])
 (.seq (.cond (.t 21) .skip (.exit 0))
 (.seq (.block 1 (.seq (.rg [Iia 22 7 18 20, Ilb 23 7 22, Io 5 (.alloc [.int .i64 0, .str [], .str [], .sl .nil 6 [], .sl .nil 2 [], .str [], .sl .nil 7 []]), ⟨none, none, .st 7 (.t 5) (.t 23), []⟩])
 (.seq (.seq (.rg [Im 24 0, Ink 25 24, If 26 1 25, Il 27 1 26, Ing 28 27])
 (.cond (.t 28) .ret .skip))
 (.seq (.seq (.rg [If 29 0 5, Il 30 1 29])
 (.block 2 (.seq (.rg [Iei 32 30 1, Im 31 32])
 (.cond (.t 31) (.seq (.rg [Im 33 0, Ilb 34 7 5, Io 35 (.call 155 [(.t 33), (.t 34)])])
 (.exit 1)) (.seq (.rg [Iei 37 30 2, Im 36 37])
 (.cond (.t 36) (.seq (.rg [Im 38 0, Ilb 39 7 5, Io 40 (.call 156 [(.t 38), (.t 39)])])
 (.exit 1)) .skip))))))
 (.seq (.rg [Im 41 0, If 42 0 5, Il 43 1 42, Iei 44 43 0, Im 45 44, Ja 46 45 5 5, Jl 47 45 1 46, Jt 48 45 (.bs .eql (.t 47) (.k (.str []))), Ipf 49 45 48, Io 50 (.call 70 [(.t 41), (.t 49)])])
 (.seq (.seq (.rg [If 51 1 5, Il 52 1 51, Io 53 (.bs .neq (.t 52) (.k (.str [])))])
 (.cond (.t 53) (.seq (.rg [Im 54 0, If 55 1 5, Il 56 1 55, Io 57 (.call 139 [(.t 54), (.t 56)])])
 (.rg [Im 58 0, Io 59 (.bls 1 1 [.str []] [(0, (.k (.str [58])))]), Io 60 (.call 140 [(.t 58), (.t 59)])])) .skip))
 (.seq (.rg [Im 61 0, If 62 2 5, Il 63 1 62, Io 64 (.call 139 [(.t 61), (.t 63)])])
 (.seq (.rg [Im 65 0, If 66 3 5, Il 67 1 66, Io 68 (.call 157 [(.t 65), (.k (.bool false)), (.t 67)])])
 (.seq (.rg [Im 69 0, If 70 4 5, Il 71 1 70, Io 72 (.call 143 [(.t 69), (.k (.bool false)), (.t 71)])])
 (.seq (.rg [If 73 6 5, Il 74 1 73, Iln 75 74, Igi 76 75 0])
 (.cond (.t 76) (.rg [Im 77 0, If 78 6 5, Il 79 1 78, Io 80 (.call 144 [(.t 77), (.t 79)])]) .skip)))))))))))
 (.rg [Iai 81 20 1, Im 20 81])))))))))⟩
theorem ck87:zw Tryz.prog 87 ir87=true:=by kernel_rfl
def ir90 : AFn := ⟨9, 2, [], .seq (.rg [Im 3 0, Io 4 (.call 91 [(.t 3), (.t 1)])])
 (.block 0 (.loop [0, 1] (.seq (.seq (.rg [Im 5 0, Io 6 (.call 92 [(.t 5)])])
 (.cond (.t 6) .skip (.exit 0)))
 (.block 1 (.rg [Im 7 0, Io 8 (.call 91 [(.t 7), (.t 1)])])))))⟩
theorem ck90:zw Tryz.prog 90 ir90=true:=by kernel_rfl
def ir91 : AFn := ⟨63, 2, [], .block 0 (.seq (.rg [Im 7 0, Io 8 (.call 161 [(.t 7), (.k (.str [123]))]), Im 6 8])
 (.cond (.t 6) (.reg [0, 1, 2, 3, 4, 5, 6, 7, 8, 9, 10, 11, 12] [Im 9 1, Im 10 1, Ink 11 10, If 12 0 11, Il 13 1 12, Im 14 0, ⟨some 15, none, .call 162 [(.t 14)], [4]⟩, Io 16 (.bld [.int .i64 0, .str [], .sl .nil 10 [], .sl .nil 2 [], .sl .nil 7 []] [(4, 1, (.t 15))]), Io 17 (.bls 5 1 [.int .i64 0, .str [], .sl .nil 10 [], .sl .nil 2 [], .sl .nil 7 []] [(0, (.t 16))]), Iap 18 5 96 13 17, Ink 19 9, If 20 0 19, ⟨none, none, .st 1 (.t 20) (.t 18), []⟩]) (.seq (.rg [Im 22 0, Io 23 (.call 163 [(.t 22), (.k (.str [113, 117, 101, 114, 121]))]), Im 21 23])
 (.cond (.t 21) (.reg [0, 1, 2, 3, 4, 5, 6, 7, 8, 9, 10, 11] [Im 24 1, Im 25 1, Ink 26 25, If 27 0 26, Il 28 1 27, Im 29 0, ⟨some 30, none, .call 164 [(.t 29), (.k (.int .i64 0))], [4]⟩, Io 31 (.bls 5 1 [.int .i64 0, .str [], .sl .nil 10 [], .sl .nil 2 [], .sl .nil 7 []] [(0, (.t 30))]), Iap 32 5 96 28 31, Ink 33 24, If 34 0 33, ⟨none, none, .st 1 (.t 34) (.t 32), []⟩]) (.seq (.rg [Im 36 0, Io 37 (.call 163 [(.t 36), (.k (.str [109, 117, 116, 97, 116, 105, 111, 110]))]), Im 35 37])
 (.cond (.t 35) (.reg [0, 1, 2, 3, 4, 5, 6, 7, 8, 9, 10, 11] [Im 38 1, Im 39 1, Ink 40 39, If 41 0 40, Il 42 1 41, Im 43 0, ⟨some 44, none, .call 164 [(.t 43), (.k (.int .i64 1))], [4]⟩, Io 45 (.bls 5 1 [.int .i64 0, .str [], .sl .nil 10 [], .sl .nil 2 [], .sl .nil 7 []] [(0, (.t 44))]), Iap 46 5 96 42 45, Ink 47 38, If 48 0 47, ⟨none, none, .st 1 (.t 48) (.t 46), []⟩]) (.seq (.rg [Im 50 0, Io 51 (.call 163 [(.t 50), (.k (.str [102, 114, 97, 103, 109, 101, 110, 116]))]), Im 49 51])
 (.cond (.t 49) (.reg [0, 1, 2, 3, 4, 5, 6, 7, 8, 9, 10, 11] [Im 52 1, Im 53 1, Ink 54 53, If 55 1 54, Il 56 1 55, Im 57 0, ⟨some 58, none, .call 165 [(.t 57)], [4]⟩, Io 59 (.bls 4 1 [.str [], .str [], .sl .nil 2 [], .sl .nil 7 []] [(0, (.t 58))]), Iap 60 4 80 56 59, Ink 61 52, If 62 1 61, ⟨none, none, .st 1 (.t 62) (.t 60), []⟩]) (.rg [Im 4 0, Io 5 (.call 160 [(.t 4), (.k (.int .i64 2))])])))))))))⟩
theorem ck91:zw Tryz.prog 91 ir91=true:=by kernel_rfl
def ir92 : AFn := ⟨13, 1, [.t 2], .seq (.rg [Imb 2 false])
 (.seq (.reg [0, 1, 2, 3, 4, 5, 6, 7, 8, 9, 10] [Im 3 0, Ink 4 3, If 5 1 4, Il 6 1 5, Im 7 0, Ink 8 7, If 9 0 8, Il 10 1 9, Iln 11 10, Ilt 12 6 11, Im 2 12])
 .ret)⟩
theorem ck92:zw Tryz.prog 92 ir92=true:=by kernel_rfl
def ir96 : AFn := ⟨109, 2, [.c 4 5 true], .seq (.rg [Io 4 (.alloc [.int .i64 0, .int .i64 0, .str [], .sl .nil 5 [], .sl .nil 6 []])])
 (.seq (.seq (.rg [Im 10 0, Io 11 (.call 174 [(.t 10)]), Io 5 (.alloc [.int .i64 0, .str []]), ⟨none, none, .st 2 (.t 5) (.t 11), []⟩])
 (.block 0 (.seq (.rg [If 13 0 5, Il 14 1 13, Iei 15 14 2, Im 12 15])
 (.cond (.t 12) (.seq (.rg [Im 16 0, Ink 17 16, If 18 1 17, Il 19 1 18, Iai 20 19 1, Ink 21 16, If 22 1 21, ⟨none, none, .st 1 (.t 22) (.t 20), []⟩])
 (.seq (.rg [If 23 1 5, Il 24 1 23, Io 25 (.call 175 [(.t 24)]), ⟨none, none, .st 5 (.t 4) (.t 25), []⟩])
 .ret)) (.seq (.rg [If 27 0 5, Il 28 1 27, Iei 29 28 3, Im 30 29, Fa 31 30 0 5, Fl 32 30 1 31, Jf 33 30 (.bi .eql .i64 (.t 32) (.k (.int .i64 4))), Ipt 34 30 33, Im 26 34])
 (.cond (.t 26) (.seq (.rg [Im 35 0, Ink 36 35, If 37 1 36, Il 38 1 37, Iai 39 38 1, Ink 40 35, If 41 1 40, ⟨none, none, .st 1 (.t 41) (.t 39), []⟩])
 (.seq (.seq (.rg [If 43 1 5, Il 44 1 43, Io 45 (.call 176 [(.t 44)]), Im 42 45, Iex 46 42 0, Iex 47 42 1, Im 6 46, Im 7 47])
 (.seq (.rg [Im 48 7])
 (.cond (.t 48) (.seq (.rg [Im 49 6, Io 50 (.call 177 [(.t 49)]), ⟨none, none, .st 5 (.t 4) (.t 50), []⟩])
 .ret) .skip)))
 (.seq (.rg [If 51 1 5, Il 52 1 51, Io 53 (.bld [.int .i64 0, .int .i64 0, .str [], .sl .nil 5 [], .sl .nil 6 []] [(0, 1, (.k (.int .i64 3))), (2, 1, (.t 52))]), ⟨none, none, .st 5 (.t 4) (.t 53), []⟩])
 .ret))) (.seq (.rg [If 55 0 5, Il 56 1 55, Iei 57 56 5, Im 54 57])
 (.cond (.t 54) (.seq (.rg [Im 58 0, Ink 59 58, If 60 1 59, Il 61 1 60, Iai 62 61 1, Ink 63 58, If 64 1 63, ⟨none, none, .st 1 (.t 64) (.t 62), []⟩])
 (.seq (.rg [If 65 1 5, Il 66 1 65, Io 67 (.call 178 [(.t 66)]), ⟨none, none, .st 5 (.t 4) (.t 67), []⟩])
 .ret)) (.seq (.rg [Im 69 0, Io 70 (.call 179 [(.t 69), (.k (.str [91]))]), Im 68 70])
 (.cond (.t 68) (.seq (.rg [Io 71 (.bld [.int .i64 0, .int .i64 0, .str [], .sl .nil 5 [], .sl .nil 6 []] [(0, 1, (.k (.int .i64 6)))]), Io 8 (.alloc [.int .i64 0, .int .i64 0, .str [], .sl .nil 5 [], .sl .nil 6 []]), ⟨none, none, .st 5 (.t 8) (.t 71), []⟩])
 (.seq (.block 1 (.loop [0, 1, 4, 8] (.seq (.seq (.rg [Im 72 0, Io 73 (.call 180 [(.t 72), (.k (.str [93]))]), Ing 74 73])
 (.cond (.t 74) .skip (.exit 1)))
 (.block 2 (.reg [0, 1, 2, 3, 4, 5, 6, 7, 8] [If 75 3 8, Il 76 1 75, Im 77 0, Im 78 1, ⟨some 79, none, .call 96 [(.t 77), (.t 78)], [1]⟩, Io 80 (.bls 5 1 [.int .i64 0, .int .i64 0, .str [], .sl .nil 5 [], .sl .nil 6 []] [(0, (.t 79))]), Iap 81 5 80 76 80, If 82 3 8, ⟨none, none, .st 1 (.t 82) (.t 81), []⟩])))))
 (.seq (.rg [Ilb 83 5 8, ⟨none, none, .st 5 (.t 4) (.t 83), []⟩])
 .ret))) (.seq (.rg [Im 85 0, Io 86 (.call 179 [(.t 85), (.k (.str [123]))]), Im 84 86])
 (.cond (.t 84) (.seq (.rg [Io 87 (.bld [.int .i64 0, .int .i64 0, .str [], .sl .nil 5 [], .sl .nil 6 []] [(0, 1, (.k (.int .i64 7)))]), Io 9 (.alloc [.int .i64 0, .int .i64 0, .str [], .sl .nil 5 [], .sl .nil 6 []]), ⟨none, none, .st 5 (.t 9) (.t 87), []⟩])
 (.seq (.block 3 (.loop [0, 1, 4, 9] (.seq (.seq (.rg [Im 88 0, Io 89 (.call 180 [(.t 88), (.k (.str [125]))]), Ing 90 89])
 (.cond (.t 90) .skip (.exit 3)))
 (.block 4 (.reg [0, 1, 2, 3, 4, 5, 6, 7, 8] [If 91 4 9, Il 92 1 91, Im 93 0, Im 94 1, ⟨some 95, none, .call 181 [(.t 93), (.t 94)], [1]⟩, Io 96 (.bls 6 1 [.str [], .int .i64 0, .int .i64 0, .str [], .sl .nil 5 [], .sl .nil 6 []] [(0, (.t 95))]), Iap 97 6 96 92 96, If 98 4 9, ⟨none, none, .st 1 (.t 98) (.t 97), []⟩])))))
 (.seq (.rg [Ilb 99 5 9, ⟨none, none, .st 5 (.t 4) (.t 99), []⟩])
 .ret))) (.seq (.rg [Im 101 1, Im 100 101])
 (.cond (.t 100) (.rg [Im 102 0, Io 103 (.call 160 [(.t 102), (.k (.int .i64 2))])]) .skip))))))))))))))
 (.seq (.rg [Im 104 0, Io 105 (.call 182 [(.t 104), (.k (.str [36]))])])
 (.seq (.rg [Im 106 0, Io 107 (.call 183 [(.t 106)]), Io 108 (.bld [.int .i64 0, .int .i64 0, .str [], .sl .nil 5 [], .sl .nil 6 []] [(0, 1, (.k (.int .i64 8))), (2, 1, (.t 107))]), ⟨none, none, .st 5 (.t 4) (.t 108), []⟩])
 .ret)))⟩
theorem ck96:zw Tryz.prog 96 ir96=true:=by kernel_rfl
def ir100 : AFn := ⟨44, 1, [.c 2 3 true], .seq (.rg [Io 2 (.alloc [.str [], .int .i64 0, .int .i64 0])])
 (.seq (.rg [Imv 3 0])
 (.seq (.block 0 (.loop [0, 2, 3] (.seq (.seq (.rg [Im 6 0, Io 7 (.call 161 [(.t 6), (.k (.str [91]))])])
 (.cond (.t 7) .skip (.exit 0)))
 (.block 1 (.seq (.seq (.rg [Im 8 3, Iei 9 8 4])
 (.cond (.t 9) (.rg [Im 10 0, Io 11 (.call 160 [(.t 10), (.k (.int .i64 4))])]) .skip))
 (.seq (.rg [Im 12 0, Ink 13 12, If 14 1 13, Il 15 1 14, Iai 16 15 1, Ink 17 12, If 18 1 17, ⟨none, none, .st 1 (.t 18) (.t 16), []⟩])
 (.rg [Im 19 3, Iai 20 19 1, Im 3 20])))))))
 (.seq (.rg [Im 21 0, Io 22 (.call 183 [(.t 21)]), Im 23 3, Io 24 (.bld [.str [], .int .i64 0, .int .i64 0] [(0, 1, (.t 22)), (1, 1, (.t 23))]), Io 4 (.alloc [.str [], .int .i64 0, .int .i64 0]), ⟨none, none, .st 3 (.t 4) (.t 24), []⟩])
 (.seq (.seq (.rg [Im 25 3, Im 5 25])
 (.block 2 (.loop [0, 2, 3, 4, 5] (.seq (.seq (.rg [Im 26 5, Io 27 (.bi .geq .i64 (.t 26) (.k (.int .i64 0)))])
 (.cond (.t 27) .skip (.exit 2)))
 (.seq (.block 3 (.seq (.seq (.rg [Im 30 5, Im 31 3, Ilt 32 30 31])
 (.cond (.t 32) (.rg [Im 33 0, Io 34 (.call 182 [(.t 33), (.k (.str [93]))])]) .skip))
 (.seq (.rg [Im 35 0, Io 36 (.call 191 [(.t 35), (.k (.str [33]))])])
 (.cond (.t 36) (.reg [0, 1, 2, 3, 4, 5, 6] [If 37 2 4, Il 38 1 37, Im 39 5, Io 40 (.shf .shl (.k (.int .i64 1)) (.t 39)), Io 41 (.bi .or .i64 (.t 38) (.t 40)), If 42 2 4, ⟨none, none, .st 1 (.t 42) (.t 41), []⟩]) .skip))))
 (.rg [Im 28 5, Isi 29 28 1, Im 5 29]))))))
 (.seq (.rg [Ilb 43 3 4, ⟨none, none, .st 3 (.t 2) (.t 43), []⟩])
 .ret)))))⟩
theorem ck100:zw Tryz.prog 100 ir100=true:=by kernel_rfl
def ir102 : AFn := ⟨42, 2, [.t 4], .seq (.rg [Imb 4 false])
 (.seq (.seq (.rg [Im 6 0, Iln 7 6, Im 8 1, Iln 9 8, Io 10 (.bi .neq .i64 (.t 7) (.t 9))])
 (.cond (.t 10) (.seq (.rg [Imb 4 false])
 .ret) .skip))
 (.seq (.seq (.rg [Imv 5 0])
 (.block 0 (.loop [0, 1, 5] (.seq (.seq (.rg [Im 11 5, Im 12 0, Iln 13 12, Ilt 14 11 13])
 (.cond (.t 14) .skip (.exit 0)))
 (.seq (.block 1 (.seq (.reg [0, 1, 2, 3, 4, 5, 6, 7, 8, 9, 10, 11, 12, 13, 14, 15, 16, 17, 18, 19, 20, 21, 22, 23, 24] [Im 17 0, Im 18 5, Iia 19 6 17 18, If 20 0 19, Il 21 1 20, Im 22 1, Im 23 5, Iia 24 6 22 23, If 25 0 24, Il 26 1 25, Io 27 (.bs .neq (.t 21) (.t 26)), Im 28 27, Fm 29 28 0, Fm 30 28 5, Jf 31 28 (.ia 6 (.t 29) (.t 30)), Fa 32 28 1 31, Jf 33 28 (.ld 5 true (.t 32)), Fm 34 28 1, Fm 35 28 5, Jf 36 28 (.ia 6 (.t 34) (.t 35)), Fa 37 28 1 36, Jf 38 28 (.ld 5 true (.t 37)), Jf 39 28 (.call 46 [(.t 33), (.t 38)]), Jf 40 28 (.not (.t 39)), Ipt 41 28 40])
 (.cond (.t 41) (.seq (.rg [Imb 4 false])
 .ret) .skip)))
 (.rg [Im 15 5, Iai 16 15 1, Im 5 16]))))))
 (.seq (.rg [Imb 4 true])
 .ret)))⟩
theorem ck102:zw Tryz.prog 102 ir102=true:=by kernel_rfl
def ir116 : AFn := ⟨41, 1, [.t 2], .seq (.rg [Ibx 1 0, Imv 2 0])
 (.seq (.rg [Imv 3 0])
 (.seq (.seq (.rg [If 8 0 1, Il 9 1 8])
 (.block 0 (.seq (.rg [Iei 11 9 6, Im 10 11])
 (.cond (.t 10) (.seq (.rg [If 12 3 1, Il 13 1 12, Iln 14 13, Imv 15 0])
 (.block 1 (.loop [3, 13, 14, 15] (.seq (.rg [Ilt 16 15 14])
 (.seq (.cond (.t 16) .skip (.exit 1))
 (.seq (.block 2 (.seq (.rg [Iia 17 5 13 15, Ilb 18 5 17, Io 5 (.alloc [.int .i64 0, .int .i64 0, .str [], .sl .nil 5 [], .sl .nil 6 []]), ⟨none, none, .st 5 (.t 5) (.t 18), []⟩])
 (.rg [Im 19 3, Ilb 20 5 5, Io 21 (.call 116 [(.t 20)]), Io 22 (.mm true (.t 19) [(.t 21)]), Im 3 22])))
 (.rg [Iai 23 15 1, Im 15 23]))))))) (.seq (.rg [Iei 25 9 7, Im 24 25])
 (.cond (.t 24) (.seq (.rg [If 26 4 1, Il 27 1 26, Iln 28 27, Imv 29 0])
 (.block 3 (.loop [3, 27, 28, 29] (.seq (.rg [Ilt 30 29 28])
 (.seq (.cond (.t 30) .skip (.exit 3))
 (.seq (.block 4 (.seq (.rg [Iia 31 6 27 29, Ilb 32 6 31, Io 7 (.alloc [.str [], .int .i64 0, .int .i64 0, .str [], .sl .nil 5 [], .sl .nil 6 []]), ⟨none, none, .st 6 (.t 7) (.t 32), []⟩])
 (.rg [Im 33 3, If 34 1 7, Ilb 35 5 34, Io 36 (.call 116 [(.t 35)]), Io 37 (.mm true (.t 33) [(.t 36)]), Im 3 37])))
 (.rg [Iai 38 29 1, Im 29 38]))))))) (.seq (.rg [Imv 2 0])
 .ret)))))))
 (.seq (.rg [Im 39 3, Iai 40 39 1, Im 2 40])
 .ret)))⟩
theorem ck116:zw Tryz.prog 116 ir116=true:=by kernel_rfl
def ir117 : AFn := ⟨10, 1, [.t 2], .seq (.rg [Ibx 1 0, Imb 2 false])
 (.seq (.rg [Ilb 3 5 1, Io 4 (.call 201 [(.t 3), (.k (.clo 203 [] []))]), Im 5 4, Jt 6 5 (.ld 5 true (.t 1)), Jt 7 5 (.call 116 [(.t 6)]), Jt 8 5 (.bi .leq .i64 (.t 7) (.k (.int .i64 16))), Ipf 9 5 8, Im 2 9])
 .ret)⟩
theorem ck117:zw Tryz.prog 117 ir117=true:=by kernel_rfl
def ir118 : AFn := ⟨119, 2, [.t 4], .seq (.rg [Ibx 3 1, Io 4 (.mv (.k (.sl .nil 2 [])))])
 (.seq (.seq (.rg [If 9 0 3, Il 10 1 9])
 (.block 0 (.seq (.rg [Iei 12 10 0, Im 11 12])
 (.cond (.t 11) (.seq (.rg [Im 13 0, Io 14 (.call 204 [(.k (.str [110, 117, 108, 108]))]), Io 15 (.bls 2 1 [.int .i64 0, .str []] [(0, (.t 14))]), Iap 16 2 24 13 15, Im 4 16])
 .ret) (.seq (.rg [Iei 18 10 1, Im 17 18])
 (.cond (.t 17) (.seq (.rg [Im 19 0, If 20 1 3, Il 21 1 20, Iei 22 21 1, Io 23 (.call 205 [(.t 22)]), Io 24 (.call 204 [(.t 23)]), Io 25 (.bls 2 1 [.int .i64 0, .str []] [(0, (.t 24))]), Iap 26 2 24 19 25, Im 4 26])
 .ret) (.seq (.rg [Iei 28 10 2, Im 27 28])
 (.cond (.t 27) (.seq (.rg [Im 29 0, If 30 1 3, Il 31 1 30, Io 32 (.call 206 [(.t 31), (.k (.int .i64 10))]), Io 33 (.bld [.int .i64 0, .str []] [(0, 1, (.k (.int .i64 3))), (1, 1, (.t 32))]), Io 34 (.bls 2 1 [.int .i64 0, .str []] [(0, (.t 33))]), Iap 35 2 24 29 34, Im 4 35])
 .ret) (.seq (.rg [Iei 37 10 3, Im 36 37])
 (.cond (.t 36) (.seq (.reg [0, 1, 2, 4, 5, 3, 6, 7, 8, 9] [Im 38 0, If 39 2 3, Il 40 1 39, If 42 2 3, Il 43 1 42, ⟨some 41, none, .call 207 [(.t 40)], [4]⟩, Io 44 (.bld [.int .i64 0, .str []] [(0, 1, (.t 41)), (1, 1, (.t 43))]), Io 45 (.bls 2 1 [.int .i64 0, .str []] [(0, (.t 44))]), Iap 46 2 24 38 45, Im 4 46])
 .ret) (.seq (.rg [Iei 48 10 4, Im 47 48])
 (.cond (.t 47) (.seq (.rg [Im 49 0, If 50 2 3, Il 51 1 50, Io 52 (.bld [.int .i64 0, .str []] [(0, 1, (.k (.int .i64 5))), (1, 1, (.t 51))]), Io 53 (.bls 2 1 [.int .i64 0, .str []] [(0, (.t 52))]), Iap 54 2 24 49 53, Im 4 54])
 .ret) (.seq (.rg [Iei 56 10 5, Im 55 56])
 (.cond (.t 55) (.seq (.rg [Im 57 0, If 58 2 3, Il 59 1 58, Io 60 (.call 204 [(.t 59)]), Io 61 (.bls 2 1 [.int .i64 0, .str []] [(0, (.t 60))]), Iap 62 2 24 57 61, Im 4 62])
 .ret) (.seq (.rg [Iei 64 10 8, Im 63 64])
 (.cond (.t 63) (.seq (.reg [0, 2, 3, 1, 4, 5, 6, 7] [Im 65 0, If 67 2 3, Il 68 1 67, ⟨some 66, none, .call 208 [(.k (.str [36]))], [2]⟩, Io 69 (.call 204 [(.t 68)]), Io 70 (.bls 2 2 [.int .i64 0, .str []] [(0, (.t 66)), (1, (.t 69))]), Iap 71 2 24 65 70, Im 4 71])
 .ret) (.seq (.rg [Iei 73 10 6, Im 72 73])
 (.cond (.t 72) (.seq (.rg [Im 74 0, Io 75 (.call 208 [(.k (.str [91]))]), Io 76 (.bls 2 1 [.int .i64 0, .str []] [(0, (.t 75))]), Iap 77 2 24 74 76, Im 0 77])
 (.seq (.seq (.rg [If 78 3 3, Il 79 1 78, Iln 80 79, Imv 81 0])
 (.block 1 (.loop [0, 79, 80, 81] (.seq (.rg [Ilt 82 81 80])
 (.seq (.cond (.t 82) .skip (.exit 1))
 (.seq (.block 2 (.seq (.rg [Iia 83 5 79 81, Ilb 84 5 83, Io 6 (.alloc [.int .i64 0, .int .i64 0, .str [], .sl .nil 5 [], .sl .nil 6 []]), ⟨none, none, .st 5 (.t 6) (.t 84), []⟩])
 (.rg [Im 85 0, Ilb 86 5 6, Io 87 (.call 118 [(.t 85), (.t 86)]), Im 0 87])))
 (.rg [Iai 88 81 1, Im 81 88])))))))
 (.seq (.rg [Im 89 0, Io 90 (.call 208 [(.k (.str [93]))]), Io 91 (.bls 2 1 [.int .i64 0, .str []] [(0, (.t 90))]), Iap 92 2 24 89 91, Im 4 92])
 .ret))) .skip))))))))))))))))))
 (.seq (.rg [Im 93 0, Io 94 (.call 208 [(.k (.str [123]))]), Io 95 (.bls 2 1 [.int .i64 0, .str []] [(0, (.t 94))]), Iap 96 2 24 93 95, Im 0 96])
 (.seq (.seq (.rg [If 97 4 3, Il 98 1 97, Iln 99 98, Imv 100 0])
 (.block 3 (.loop [0, 98, 99, 100] (.seq (.rg [Ilt 101 100 99])
 (.seq (.cond (.t 101) .skip (.exit 3))
 (.seq (.block 4 (.seq (.rg [Iia 102 6 98 100, Ilb 103 6 102, Io 8 (.alloc [.str [], .int .i64 0, .int .i64 0, .str [], .sl .nil 5 [], .sl .nil 6 []]), ⟨none, none, .st 6 (.t 8) (.t 103), []⟩])
 (.reg [0, 1, 2, 7, 8, 3, 4, 5, 6, 9, 10] [Im 104 0, If 105 0 8, Il 106 1 105, If 111 1 8, Ilb 112 5 111, ⟨some 107, none, .call 204 [(.t 106)], [4]⟩, ⟨some 108, none, .call 208 [(.k (.str [58]))], [4]⟩, Io 109 (.bls 2 2 [.int .i64 0, .str []] [(0, (.t 107)), (1, (.t 108))]), ⟨some 110, none, .app 2 24 (.t 104) (.t 109), [4]⟩, Io 113 (.call 118 [(.t 110), (.t 112)]), Im 0 113])))
 (.rg [Iai 114 100 1, Im 100 114])))))))
 (.seq (.rg [Im 115 0, Io 116 (.call 208 [(.k (.str [125]))]), Io 117 (.bls 2 1 [.int .i64 0, .str []] [(0, (.t 116))]), Iap 118 2 24 115 117, Im 4 118])
 .ret))))⟩
theorem ck118:zw Tryz.prog 118 ir118=true:=by kernel_rfl
def ir119 : AFn := ⟨40, 1, [.t 2], .seq (.rg [Ibx 1 0, Imb 2 false])
 (.seq (.seq (.rg [If 3 0 1, Il 4 1 3])
 (.block 0 (.seq (.rg [Iei 6 4 1, Im 5 6])
 (.cond (.t 5) (.seq (.rg [If 7 1 1, Il 8 1 7, Io 9 (.bs .eql (.t 8) (.k (.str [46, 46, 46]))), Im 10 9, Fa 11 10 1 1, Fl 12 10 1 11, Jf 13 10 (.lens (.t 12)), Jf 14 10 (.bi .eql .i64 (.t 13) (.k (.int .i64 1))), Fm 15 10 14, Ja 16 15 1 1, Jl 17 15 1 16, Jt 18 15 (.call 209 [(.k (.str [33, 36, 38, 40, 41, 58, 61, 64, 91, 93, 123, 124, 125])), (.t 17)]), Jf 19 10 (.pick (.t 15) (.t 18) (.k (.bool false))), Ipt 20 10 19, Im 2 20])
 .ret) (.seq (.rg [Iei 22 4 2, Im 21 22])
 (.cond (.t 21) (.seq (.rg [If 23 1 1, Il 24 1 23, Io 25 (.call 203 [(.t 24)]), Im 2 25])
 .ret) (.seq (.seq (.rg [Iei 27 4 3, Im 26 27])
 (.cond (.t 26) .skip (.rg [Iei 28 4 4, Im 26 28])))
 (.cond (.t 26) (.seq (.reg [0, 1, 3, 4, 2, 5, 6] [If 29 1 1, Il 30 1 29, If 32 0 1, Il 33 1 32, ⟨some 31, none, .call 207 [(.t 30)], [3]⟩, Io 34 (.bi .eql .i64 (.t 31) (.t 33)), Im 2 34])
 .ret) (.seq (.rg [Iei 36 4 5, Im 35 36])
 (.cond (.t 35) (.seq (.rg [If 37 1 1, Il 38 1 37, Io 39 (.call 202 [(.t 38)]), Im 2 39])
 .ret) .skip))))))))))
 (.seq (.rg [Imb 2 false])
 .ret))⟩
theorem ck119:zw Tryz.prog 119 ir119=true:=by kernel_rfl
def ir120 : AFn := ⟨83, 1, [.t 2], .seq (.rg [Io 2 (.mv (.k (.str [])))])
 (.seq (.rg [Io 11 (.bls 1 1 [.int .u8 0] [(0, (.k (.int .u8 34)))]), Im 3 11])
 (.seq (.seq (.rg [Imv 4 0])
 (.block 0 (.loop [0, 3, 4] (.seq (.seq (.rg [Im 12 4, Im 13 0, Ils 14 13, Ilt 15 12 14])
 (.cond (.t 15) .skip (.exit 0)))
 (.block 1 (.seq (.rg [Im 17 0, Im 18 4, Io 19 (.call 210 [(.t 17), (.t 18)]), Im 16 19, Iex 20 16 0, Iex 21 16 1, Im 5 20, Im 6 21])
 (.seq (.block 2 (.seq (.rg [Im 31 5, Iei 32 31 34, Im 33 32, Fm 34 33 5, Jf 35 33 (.bi .eql .i64 (.t 34) (.k (.int .i64 92))), Ipt 36 33 35, Im 30 36])
 (.cond (.t 30) (.rg [Im 37 3, Im 38 5, Io 39 (.cvi .u8 (.t 38)), Io 40 (.bls 1 2 [.int .u8 0] [(0, (.k (.int .u8 92))), (1, (.t 39))]), Iap 41 1 1 37 40, Im 3 41]) (.seq (.rg [Im 43 5, Iei 44 43 10, Im 42 44])
 (.cond (.t 42) (.rg [Im 45 3, Io 46 (.bls 1 2 [.int .u8 0] [(0, (.k (.int .u8 92))), (1, (.k (.int .u8 110)))]), Iap 47 1 1 45 46, Im 3 47]) (.seq (.rg [Im 49 5, Io 50 (.bi .lss .i64 (.t 49) (.k (.int .i64 32))), Im 51 50, Fm 52 51 5, Jf 53 51 (.bi .geq .i64 (.t 52) (.k (.int .i64 65536))), Ipt 54 51 53, Im 48 54])
 (.cond (.t 48) (.seq (.rg [Im 56 0, Im 57 4, Im 58 4, Im 59 6, Iad 60 58 59, Io 61 (.sls (.t 56) (some (.t 57)) (some (.t 60))), Io 62 (.call 211 [(.t 61)]), Im 55 62, Iex 63 55 0, Iex 64 55 1, Im 7 63, Im 8 64])
 (.seq (.rg [Im 65 7, Iln 66 65, Imv 67 0])
 (.block 3 (.loop [0, 3, 4, 6, 65, 66, 67] (.seq (.rg [Ilt 68 67 66])
 (.seq (.cond (.t 68) .skip (.exit 3))
 (.seq (.block 4 (.seq (.rg [Iia 69 1 65 67, Il 70 1 69, Im 10 70])
 (.rg [Im 71 3, Im 72 10, Io 73 (.call 212 [(.t 71), (.t 72)]), Im 3 73])))
 (.rg [Iai 74 67 1, Im 67 74])))))))) (.rg [Im 22 3, Im 23 0, Im 24 4, Im 25 4, Im 26 6, Iad 27 25 26, Io 28 (.sls (.t 23) (some (.t 24)) (some (.t 27))), Io 29 (.apps (.t 22) (.t 28)), Im 3 29]))))))))
 (.rg [Im 75 4, Im 76 6, Io 77 (.mm true (.t 76) [(.k (.int .i64 1))]), Iad 78 75 77, Im 4 78]))))))))
 (.seq (.rg [Im 79 3, Io 80 (.bls 1 1 [.int .u8 0] [(0, (.k (.int .u8 34)))]), Iap 81 1 1 79 80, Io 82 (.cvb2s (.t 81)), Im 2 82])
 .ret)))⟩
theorem ck120:zw Tryz.prog 120 ir120=true:=by kernel_rfl
def ir122 : AFn := ⟨25, 1, [.t 2], .seq (.rg [Imb 2 false])
 (.scope (.seq .skip
 (.seq (.seq (.rg [Imv 3 0])
 (.block 0 (.loop [0, 3] (.seq (.seq (.rg [Im 6 3, Im 7 0, Ils 8 7, Ilt 9 6 8])
 (.cond (.t 9) .skip (.exit 0)))
 (.block 1 (.seq (.seq (.rg [Im 11 0, Im 12 3, Io 13 (.call 210 [(.t 11), (.t 12)]), Im 10 13, Iex 14 10 0, Iex 15 10 1, Im 4 14, Im 5 15])
 (.seq (.rg [Im 16 5, Igi 17 16 0, Im 18 17, Jm 19 18 4, Jt 20 18 (.call 216 [(.t 19)]), Ipf 21 18 20])
 (.cond (.t 21) (.seq (.rg [Im 22 3, Im 23 5, Iad 24 22 23, Im 3 24])
 (.exit 1)) .skip)))
 (.seq (.rg [Imb 2 false])
 .ret)))))))
 (.seq (.rg [Imb 2 true])
 .ret))))⟩
theorem ck122:zw Tryz.prog 122 ir122=true:=by kernel_rfl
def ir123 : AFn := ⟨39, 1, [.t 2], .seq (.rg [Imv 2 0])
 (.seq (.seq (.rg [Im 5 0, Io 6 (.ixs (.t 5) (.k (.int .i64 0))), Im 3 6])
 (.block 0 (.seq (.rg [Im 8 3, Io 9 (.bi .eql .u8 (.t 8) (.k (.int .u8 9))), Im 10 9, Fm 11 10 3, Jf 12 10 (.bi .eql .u8 (.t 11) (.k (.int .u8 10))), Ipt 13 10 12, Im 14 13, Fm 15 14 3, Jf 16 14 (.bi .eql .u8 (.t 15) (.k (.int .u8 13))), Ipt 17 14 16, Im 18 17, Fm 19 18 3, Jf 20 18 (.bi .eql .u8 (.t 19) (.k (.int .u8 32))), Ipt 21 18 20, Im 22 21, Fm 23 22 3, Jf 24 22 (.bi .eql .u8 (.t 23) (.k (.int .u8 44))), Ipt 25 22 24, Im 7 25])
 (.cond (.t 7) (.seq (.rg [Imv 2 1])
 .ret) (.seq (.rg [Im 27 0, Io 28 (.call 217 [(.t 27), (.k (.str [239, 187, 191]))]), Im 26 28])
 (.cond (.t 26) (.seq (.rg [Imv 2 3])
 .ret) (.seq (.rg [Im 30 3, Io 31 (.bi .eql .u8 (.t 30) (.k (.int .u8 35))), Im 29 31])
 (.cond (.t 29) (.seq (.seq (.rg [Im 32 0, Io 33 (.call 218 [(.t 32), (.k (.str [13, 10]))]), Im 4 33])
 (.seq (.rg [Im 34 4, Io 35 (.bi .geq .i64 (.t 34) (.k (.int .i64 0)))])
 (.cond (.t 35) (.seq (.rg [Im 36 4, Im 2 36])
 .ret) .skip)))
 (.seq (.rg [Im 37 0, Ils 38 37, Im 2 38])
 .ret)) .skip))))))))
 (.seq (.rg [Imv 2 0])
 .ret))⟩
theorem ck123:zw Tryz.prog 123 ir123=true:=by kernel_rfl
def ir124 : AFn := ⟨91, 1, [.c 2 2 true, .t 3], .seq (.rg [Io 2 (.alloc [.int .i64 0, .str []]), Imv 3 0])
 (.seq (.rg [Im 12 0, Io 13 (.ixs (.t 12) (.k (.int .i64 0))), Im 4 13])
 (.seq (.block 0 (.seq (.rg [Im 15 0, Io 16 (.call 217 [(.t 15), (.k (.str [34, 34, 34]))]), Im 14 16])
 (.cond (.t 14) (.seq (.rg [Im 18 0, Io 19 (.call 219 [(.t 18)]), Im 17 19, Iex 20 17 0, Iex 21 17 1, Im 5 20, Im 6 21])
 (.seq (.rg [Im 22 5, Io 23 (.bld [.int .i64 0, .str []] [(0, 1, (.k (.int .i64 5))), (1, 1, (.t 22))]), Im 24 6, ⟨none, none, .st 2 (.t 2) (.t 23), []⟩, Im 3 24])
 .ret)) (.seq (.rg [Im 26 4, Io 27 (.bi .eql .u8 (.t 26) (.k (.int .u8 34))), Im 25 27])
 (.cond (.t 25) (.seq (.rg [Im 29 0, Io 30 (.call 220 [(.t 29), (.k (.clo 221 [] []))]), Im 28 30, Iex 31 28 0, Iex 32 28 1, Im 7 31, Im 8 32])
 (.seq (.rg [Im 33 7, Io 34 (.bld [.int .i64 0, .str []] [(0, 1, (.k (.int .i64 5))), (1, 1, (.t 33))]), Im 35 8, ⟨none, none, .st 2 (.t 2) (.t 34), []⟩, Im 3 35])
 .ret)) (.seq (.rg [Im 37 0, Io 38 (.call 217 [(.t 37), (.k (.str [46, 46, 46]))]), Im 36 38])
 (.cond (.t 36) (.seq (.rg [Io 39 (.bld [.int .i64 0, .str []] [(0, 1, (.k (.int .i64 1))), (1, 1, (.k (.str [46, 46, 46])))]), ⟨none, none, .st 2 (.t 2) (.t 39), []⟩, Imv 3 3])
 .ret) (.seq (.rg [Im 41 4, Io 42 (.call 222 [(.k (.str [33, 36, 38, 40, 41, 58, 61, 64, 91, 93, 123, 124, 125])), (.t 41)]), Io 43 (.bi .geq .i64 (.t 42) (.k (.int .i64 0))), Im 40 43])
 (.cond (.t 40) (.seq (.rg [Im 44 0, Io 45 (.sls (.t 44) none (some (.k (.int .i64 1)))), Io 46 (.bld [.int .i64 0, .str []] [(0, 1, (.k (.int .i64 1))), (1, 1, (.t 45))]), ⟨none, none, .st 2 (.t 2) (.t 46), []⟩, Imv 3 1])
 .ret) (.seq (.rg [Im 48 4, Io 49 (.call 223 [(.t 48)]), Im 47 49])
 (.cond (.t 47) (.seq (.rg [Im 50 0, Io 51 (.call 224 [(.t 50)]), Im 9 51])
 (.seq (.rg [Im 52 0, Im 53 9, Io 54 (.sls (.t 52) none (some (.t 53))), Io 55 (.bld [.int .i64 0, .str []] [(0, 1, (.k (.int .i64 2))), (1, 1, (.t 54))]), Im 56 9, ⟨none, none, .st 2 (.t 2) (.t 55), []⟩, Im 3 56])
 .ret)) .skip)))))))))))
 (.seq (.rg [Im 58 0, Io 59 (.call 225 [(.t 58)]), Im 57 59, Iex 60 57 0, Iex 61 57 1, Im 10 60, Im 11 61])
 (.seq (.seq (.rg [Im 62 10, Im 63 0, Ils 64 63, Ilt 65 62 64, Im 66 65, Jm 67 66 0, Jm 68 66 10, Jt 69 66 (.ixs (.t 67) (.t 68)), Jt 70 66 (.call 223 [(.t 69)]), Jm 71 66 70, Fm 72 71 0, Fm 73 71 10, Jf 74 71 (.ixs (.t 72) (.t 73)), Jf 75 71 (.call 226 [(.t 74)]), Jt 76 66 (.pick (.t 71) (.k (.bool true)) (.t 75)), Jm 77 66 76, Fm 78 77 0, Fm 79 77 10, Jf 80 77 (.ixs (.t 78) (.t 79)), Jf 81 77 (.bi .eql .u8 (.t 80) (.k (.int .u8 46))), Jt 82 66 (.pick (.t 77) (.k (.bool true)) (.t 81)), Ipf 83 66 82])
 (.cond (.t 83) (.seq (.rg [Io 84 (.bld [.int .i64 0, .str []] []), ⟨none, none, .st 2 (.t 2) (.t 84), []⟩, Imv 3 0])
 .ret) .skip))
 (.seq (.rg [Im 85 11, Im 86 0, Im 87 10, Io 88 (.sls (.t 86) none (some (.t 87))), Io 89 (.bld [.int .i64 0, .str []] [(0, 1, (.t 85)), (1, 1, (.t 88))]), Im 90 10, ⟨none, none, .st 2 (.t 2) (.t 89), []⟩, Im 3 90])
 .ret)))))⟩
theorem ck124:zw Tryz.prog 124 ir124=true:=by kernel_rfl
def ir125 : AFn := ⟨30, 1, [.t 2], .seq (.rg [Ibx 1 0, Imb 2 false])
 (.seq (.rg [If 3 0 1, Il 4 1 3, Io 5 (.call 203 [(.t 4)]), Im 6 5, Ja 7 6 1 1, Jl 8 6 1 7, Jt 9 6 (.bi .geq .i64 (.t 8) (.k (.int .i64 0))), Ipf 10 6 9, Im 11 10, Ja 12 11 1 1, Jl 13 11 1 12, Jt 14 11 (.bi .leq .i64 (.t 13) (.k (.int .i64 4))), Ipf 15 11 14, Im 16 15, Ja 17 16 2 1, Jl 18 16 1 17, Jt 19 16 (.bi .geq .i64 (.t 18) (.k (.int .i64 0))), Ipf 20 16 19, Im 21 20, Ja 22 21 2 1, Jl 23 21 1 22, Ja 24 21 1 1, Jl 25 21 1 24, Jt 26 21 (.bi .add .i64 (.t 25) (.k (.int .i64 1))), Jt 27 21 (.shf .shr (.t 23) (.t 26)), Jt 28 21 (.bi .eql .i64 (.t 27) (.k (.int .i64 0))), Ipf 29 21 28, Im 2 29])
 .ret)⟩
theorem ck125:zw Tryz.prog 125 ir125=true:=by kernel_rfl
def ir128 : AFn := ⟨32, 3, [.t 6], .seq (.rg [Imb 6 false])
 (.seq (.seq (.rg [Im 10 0, Iln 11 10, Im 12 1, Iln 13 12, Io 14 (.bi .neq .i64 (.t 11) (.t 13))])
 (.cond (.t 14) (.seq (.rg [Imb 6 false])
 .ret) .skip))
 (.seq (.seq (.rg [Im 15 0, Iln 16 15, Imv 17 0])
 (.block 0 (.loop [1, 2, 15, 16, 17] (.seq (.rg [Ilt 18 17 16])
 (.seq (.cond (.t 18) .skip (.exit 0))
 (.seq (.block 1 (.seq (.rg [Im 19 17, Iia 20 5 15 17, Ilb 21 5 20, Io 8 (.alloc [.int .i64 0, .int .i64 0, .str [], .sl .nil 5 [], .sl .nil 6 []]), Im 7 19, ⟨none, none, .st 5 (.t 8) (.t 21), []⟩])
 (.seq (.rg [Im 22 1, Im 23 7, Iia 24 5 22 23, Ilb 25 5 24, Io 9 (.alloc [.int .i64 0, .int .i64 0, .str [], .sl .nil 5 [], .sl .nil 6 []]), ⟨none, none, .st 5 (.t 9) (.t 25), []⟩])
 (.seq (.rg [Im 26 2, Ilb 27 5 8, Ilb 28 5 9, Io 29 (.callv (.t 26) [(.t 27), (.t 28)]), Ing 30 29])
 (.cond (.t 30) (.seq (.rg [Imb 6 false])
 .ret) .skip)))))
 (.rg [Iai 31 17 1, Im 17 31])))))))
 (.seq (.rg [Imb 6 true])
 .ret)))⟩
theorem ck128:zw Tryz.prog 128 ir128=true:=by kernel_rfl
def ir129 : AFn := ⟨32, 3, [.t 6], .seq (.rg [Imb 6 false])
 (.seq (.seq (.rg [Im 10 0, Iln 11 10, Im 12 1, Iln 13 12, Io 14 (.bi .neq .i64 (.t 11) (.t 13))])
 (.cond (.t 14) (.seq (.rg [Imb 6 false])
 .ret) .skip))
 (.seq (.seq (.rg [Im 15 0, Iln 16 15, Imv 17 0])
 (.block 0 (.loop [1, 2, 15, 16, 17] (.seq (.rg [Ilt 18 17 16])
 (.seq (.cond (.t 18) .skip (.exit 0))
 (.seq (.block 1 (.seq (.rg [Im 19 17, Iia 20 6 15 17, Ilb 21 6 20, Io 8 (.alloc [.str [], .int .i64 0, .int .i64 0, .str [], .sl .nil 5 [], .sl .nil 6 []]), Im 7 19, ⟨none, none, .st 6 (.t 8) (.t 21), []⟩])
 (.seq (.rg [Im 22 1, Im 23 7, Iia 24 6 22 23, Ilb 25 6 24, Io 9 (.alloc [.str [], .int .i64 0, .int .i64 0, .str [], .sl .nil 5 [], .sl .nil 6 []]), ⟨none, none, .st 6 (.t 9) (.t 25), []⟩])
 (.seq (.rg [Im 26 2, Ilb 27 6 8, Ilb 28 6 9, Io 29 (.callv (.t 26) [(.t 27), (.t 28)]), Ing 30 29])
 (.cond (.t 30) (.seq (.rg [Imb 6 false])
 .ret) .skip)))))
 (.rg [Iai 31 17 1, Im 17 31])))))))
 (.seq (.rg [Imb 6 true])
 .ret)))⟩
theorem ck129:zw Tryz.prog 129 ir129=true:=by kernel_rfl
def ir130 : AFn := ⟨17, 2, [.t 4], .seq (.rg [Ibx 2 0, Ibx 3 1, Imb 4 false])
 (.seq (.rg [If 5 0 2, Il 6 1 5, If 7 0 3, Il 8 1 7, Io 9 (.bs .eql (.t 6) (.t 8)), Im 10 9, Ja 11 10 1 2, Jt 12 10 (.ld 5 true (.t 11)), Ja 13 10 1 3, Jt 14 10 (.ld 5 true (.t 13)), Jt 15 10 (.call 59 [(.t 12), (.t 14)]), Ipf 16 10 15, Im 4 16])
 .ret)⟩
theorem ck130:zw Tryz.prog 130 ir130=true:=by kernel_rfl
def ir131 : AFn := ⟨51, 2, [.t 4], .seq (.rg [Ibx 3 1, Io 4 (.mv (.k (.sl .nil 1 [])))])
 (.seq (.seq (.rg [If 9 0 3, Il 10 1 9])
 (.block 0 (.seq (.rg [Iei 12 10 8, Im 11 12])
 (.cond (.t 11) (.seq (.rg [Im 13 0, If 14 2 3, Il 15 1 14, Io 16 (.call 229 [(.t 13), (.t 15)]), Ing 17 16])
 (.cond (.t 17) (.rg [Im 18 0, If 19 2 3, Il 20 1 19, Io 21 (.bls 1 1 [.str []] [(0, (.t 20))]), Iap 22 1 16 18 21, Im 0 22]) .skip)) (.seq (.rg [Iei 24 10 6, Im 23 24])
 (.cond (.t 23) (.seq (.rg [If 25 3 3, Il 26 1 25, Iln 27 26, Imv 28 0])
 (.block 1 (.loop [0, 26, 27, 28] (.seq (.rg [Ilt 29 28 27])
 (.seq (.cond (.t 29) .skip (.exit 1))
 (.seq (.block 2 (.seq (.rg [Iia 30 5 26 28, Ilb 31 5 30, Io 6 (.alloc [.int .i64 0, .int .i64 0, .str [], .sl .nil 5 [], .sl .nil 6 []]), ⟨none, none, .st 5 (.t 6) (.t 31), []⟩])
 (.rg [Im 32 0, Ilb 33 5 6, Io 34 (.call 131 [(.t 32), (.t 33)]), Im 0 34])))
 (.rg [Iai 35 28 1, Im 28 35]))))))) (.seq (.rg [Iei 37 10 7, Im 36 37])
 (.cond (.t 36) (.seq (.rg [If 38 4 3, Il 39 1 38, Iln 40 39, Imv 41 0])
 (.block 3 (.loop [0, 39, 40, 41] (.seq (.rg [Ilt 42 41 40])
 (.seq (.cond (.t 42) .skip (.exit 3))
 (.seq (.block 4 (.seq (.rg [Iia 43 6 39 41, Ilb 44 6 43, Io 8 (.alloc [.str [], .int .i64 0, .int .i64 0, .str [], .sl .nil 5 [], .sl .nil 6 []]), ⟨none, none, .st 6 (.t 8) (.t 44), []⟩])
 (.rg [Im 45 0, If 46 1 8, Ilb 47 5 46, Io 48 (.call 131 [(.t 45), (.t 47)]), Im 0 48])))
 (.rg [Iai 49 41 1, Im 41 49]))))))) .skip))))))))
 (.seq (.rg [Im 50 0, Im 4 50])
 .ret))⟩
theorem ck131:zw Tryz.prog 131 ir131=true:=by kernel_rfl
def ir139 : AFn := ⟨19, 2, [], .seq (.rg [Im 4 0, Im 5 1, Io 6 (.call 203 [(.t 5)]), Io 7 (.call 70 [(.t 4), (.t 6)])])
 (.rg [Im 8 0, Im 9 0, Ink 10 9, If 11 0 10, Il 12 1 11, Im 13 1, Io 14 (.bld [.int .i64 0, .str []] [(0, 1, (.k (.int .i64 2))), (1, 1, (.t 13))]), Io 15 (.bls 2 1 [.int .i64 0, .str []] [(0, (.t 14))]), Iap 16 2 24 12 15, Ink 17 8, If 18 0 17, ⟨none, none, .st 1 (.t 18) (.t 16), []⟩])⟩
theorem ck139:zw Tryz.prog 139 ir139=true:=by kernel_rfl
def ir140 : AFn := ⟨24, 2, [], .seq (.rg [Im 6 1, Iln 7 6, Imv 8 0])
 (.block 0 (.loop [0, 6, 7, 8] (.seq (.rg [Ilt 9 8 7])
 (.seq (.cond (.t 9) .skip (.exit 0))
 (.seq (.block 1 (.seq (.rg [Iia 10 1 6 8, Il 11 1 10, Im 5 11])
 (.rg [Im 12 0, Im 13 0, Ink 14 13, If 15 0 14, Il 16 1 15, Im 17 5, Io 18 (.bld [.int .i64 0, .str []] [(0, 1, (.k (.int .i64 1))), (1, 1, (.t 17))]), Io 19 (.bls 2 1 [.int .i64 0, .str []] [(0, (.t 18))]), Iap 20 2 24 16 19, Ink 21 12, If 22 0 21, ⟨none, none, .st 1 (.t 22) (.t 20), []⟩])))
 (.rg [Iai 23 8 1, Im 8 23]))))))⟩
theorem ck140:zw Tryz.prog 140 ir140=true:=by kernel_rfl
def ir141 : AFn := ⟨48, 2, [], .seq (.rg [Ibx 3 1])
 (.seq (.rg [Im 5 0, Ilb 6 3 3, Io 7 (.call 125 [(.t 6)]), Io 8 (.call 70 [(.t 5), (.t 7)])])
 (.seq (.seq (.rg [Im 9 0, Ink 10 9, If 11 1 10, Il 12 1 11, Ing 13 12])
 (.cond (.t 13) .ret .skip))
 (.seq (.seq (.rg [If 14 1 3, Il 15 1 14, Imv 16 0])
 (.block 0 (.loop [0, 3, 15, 16] (.seq (.rg [Ilt 17 16 15])
 (.seq (.cond (.t 17) .skip (.exit 0))
 (.seq (.block 1 (.rg [Im 18 0, Io 19 (.bls 1 1 [.str []] [(0, (.k (.str [91])))]), Io 20 (.call 140 [(.t 18), (.t 19)])]))
 (.rg [Iai 21 16 1, Im 16 21])))))))
 (.seq (.rg [Im 22 0, If 23 0 3, Il 24 1 23, Io 25 (.call 139 [(.t 22), (.t 24)])])
 (.seq (.rg [If 26 1 3, Il 27 1 26, Im 4 27])
 (.block 2 (.loop [0, 3, 4] (.seq (.seq (.rg [Im 28 4, Io 29 (.bi .geq .i64 (.t 28) (.k (.int .i64 0)))])
 (.cond (.t 29) .skip (.exit 2)))
 (.seq (.block 3 (.seq (.seq (.rg [Im 32 4, If 33 1 3, Il 34 1 33, Ilt 35 32 34])
 (.cond (.t 35) (.rg [Im 36 0, Io 37 (.bls 1 1 [.str []] [(0, (.k (.str [93])))]), Io 38 (.call 140 [(.t 36), (.t 37)])]) .skip))
 (.seq (.rg [If 39 2 3, Il 40 1 39, Im 41 4, Io 42 (.shf .shr (.t 40) (.t 41)), Io 43 (.bi .and .i64 (.t 42) (.k (.int .i64 1))), Iei 44 43 1])
 (.cond (.t 44) (.rg [Im 45 0, Io 46 (.bls 1 1 [.str []] [(0, (.k (.str [33])))]), Io 47 (.call 140 [(.t 45), (.t 46)])]) .skip))))
 (.rg [Im 30 4, Isi 31 30 1, Im 4 31]))))))))))⟩
theorem ck141:zw Tryz.prog 141 ir141=true:=by kernel_rfl
def ir142 : AFn := ⟨19, 3, [], .seq (.rg [Ibx 5 2])
 (.seq (.seq (.rg [Im 6 1, Ing 7 6])
 (.cond (.t 7) (.seq (.rg [Im 8 0, Ilb 9 5 5, Io 10 (.bld [.int .i64 0, .int .i64 0, .str [], .sl .nil 5 [], .sl .nil 6 []] []), Io 11 (.call 59 [(.t 9), (.t 10)]), Io 12 (.call 70 [(.t 8), (.t 11)])])
 .ret) .skip))
 (.seq (.rg [Im 13 0, Io 14 (.bls 1 1 [.str []] [(0, (.k (.str [61])))]), Io 15 (.call 140 [(.t 13), (.t 14)])])
 (.rg [Im 16 0, Ilb 17 5 5, Io 18 (.call 237 [(.t 16), (.t 17), (.k (.bool true))])])))⟩
theorem ck142:zw Tryz.prog 142 ir142=true:=by kernel_rfl
def ir143 : AFn := ⟨27, 3, [], .seq (.rg [Im 8 2, Iln 9 8, Imv 10 0])
 (.block 0 (.loop [0, 1, 8, 9, 10] (.seq (.rg [Ilt 11 10 9])
 (.seq (.cond (.t 11) .skip (.exit 0))
 (.seq (.block 1 (.seq (.rg [Iia 12 2 8 10, Ilb 13 2 12, Io 7 (.alloc [.str [], .sl .nil 6 []]), ⟨none, none, .st 2 (.t 7) (.t 13), []⟩])
 (.seq (.rg [Im 14 0, Io 15 (.bls 1 1 [.str []] [(0, (.k (.str [64])))]), Io 16 (.call 140 [(.t 14), (.t 15)])])
 (.seq (.rg [Im 17 0, If 18 0 7, Il 19 1 18, Io 20 (.call 139 [(.t 17), (.t 19)])])
 (.rg [Im 21 0, Im 22 1, If 23 1 7, Il 24 1 23, Io 25 (.call 157 [(.t 21), (.t 22), (.t 24)])])))))
 (.rg [Iai 26 10 1, Im 10 26]))))))⟩
theorem ck143:zw Tryz.prog 143 ir143=true:=by kernel_rfl
def ir144 : AFn := ⟨27, 2, [], .seq (.rg [Im 4 0, Io 5 (.bls 1 1 [.str []] [(0, (.k (.str [123])))]), Io 6 (.call 140 [(.t 4), (.t 5)])])
 (.seq (.rg [Im 7 0, Ink 8 7, If 9 2 8, Il 10 1 9, Iai 11 10 1, Ink 12 7, If 13 2 12, ⟨none, none, .st 1 (.t 13) (.t 11), []⟩])
 (.seq (.rg [Im 14 0, Im 15 1, Io 16 (.call 87 [(.t 14), (.t 15)])])
 (.seq (.rg [Im 17 0, Ink 18 17, If 19 2 18, Il 20 1 19, Isi 21 20 1, Ink 22 17, If 23 2 22, ⟨none, none, .st 1 (.t 23) (.t 21), []⟩])
 (.rg [Im 24 0, Io 25 (.bls 1 1 [.str []] [(0, (.k (.str [125])))]), Io 26 (.call 140 [(.t 24), (.t 25)])]))))⟩
theorem ck144:zw Tryz.prog 144 ir144=true:=by kernel_rfl
def ir153 : AFn := ⟨42, 2, [.t 4], .seq (.rg [Imb 4 false])
 (.seq (.seq (.rg [Im 6 0, Iln 7 6, Im 8 1, Iln 9 8, Io 10 (.bi .neq .i64 (.t 7) (.t 9))])
 (.cond (.t 10) (.seq (.rg [Imb 4 false])
 .ret) .skip))
 (.seq (.seq (.rg [Imv 5 0])
 (.block 0 (.loop [0, 1, 5] (.seq (.seq (.rg [Im 11 5, Im 12 0, Iln 13 12, Ilt 14 11 13])
 (.cond (.t 14) .skip (.exit 0)))
 (.seq (.block 1 (.seq (.reg [0, 1, 2, 3, 4, 5, 6, 7, 8, 9, 10, 11, 12, 13, 14, 15, 16, 17, 18, 19, 20, 21, 22, 23, 24] [Im 17 0, Im 18 5, Iia 19 2 17 18, If 20 0 19, Il 21 1 20, Im 22 1, Im 23 5, Iia 24 2 22 23, If 25 0 24, Il 26 1 25, Io 27 (.bs .neq (.t 21) (.t 26)), Im 28 27, Fm 29 28 0, Fm 30 28 5, Jf 31 28 (.ia 2 (.t 29) (.t 30)), Fa 32 28 1 31, Fl 33 28 1 32, Fm 34 28 1, Fm 35 28 5, Jf 36 28 (.ia 2 (.t 34) (.t 35)), Fa 37 28 1 36, Fl 38 28 1 37, Jf 39 28 (.call 102 [(.t 33), (.t 38)]), Jf 40 28 (.not (.t 39)), Ipt 41 28 40])
 (.cond (.t 41) (.seq (.rg [Imb 4 false])
 .ret) .skip)))
 (.rg [Im 15 5, Iai 16 15 1, Im 5 16]))))))
 (.seq (.rg [Imb 4 true])
 .ret)))⟩
theorem ck153:zw Tryz.prog 153 ir153=true:=by kernel_rfl
def ir154 : AFn := ⟨77, 2, [.t 4], .seq (.rg [Imb 4 false])
 (.seq (.seq (.rg [Im 8 0, Iln 9 8, Im 10 1, Iln 11 10, Io 12 (.bi .neq .i64 (.t 9) (.t 11))])
 (.cond (.t 12) (.seq (.rg [Imb 4 false])
 .ret) .skip))
 (.seq (.seq (.rg [Imv 5 0])
 (.block 0 (.loop [0, 1, 5] (.seq (.seq (.rg [Im 13 5, Im 14 0, Iln 15 14, Ilt 16 13 15])
 (.cond (.t 16) .skip (.exit 0)))
 (.seq (.block 1 (.seq (.reg [0, 1, 2, 3, 4, 5, 6, 7, 8, 9, 10, 11] [Im 19 0, Im 20 5, Iia 21 7 19 20, Ilb 22 7 21, Im 23 1, Im 24 5, Iia 25 7 23 24, Ilb 26 7 25, Io 6 (.alloc [.int .i64 0, .str [], .str [], .sl .nil 6 [], .sl .nil 2 [], .str [], .sl .nil 7 []]), Io 7 (.alloc [.int .i64 0, .str [], .str [], .sl .nil 6 [], .sl .nil 2 [], .str [], .sl .nil 7 []]), ⟨none, none, .st 7 (.t 6) (.t 22), [7]⟩, ⟨none, none, .st 7 (.t 7) (.t 26), []⟩])
 (.seq (.rg [If 27 0 6, Il 28 1 27, If 29 0 7, Il 30 1 29, Io 31 (.bi .neq .i64 (.t 28) (.t 30)), Im 32 31, Fa 33 32 1 6, Fl 34 32 1 33, Fa 35 32 1 7, Fl 36 32 1 35, Jf 37 32 (.bs .neq (.t 34) (.t 36)), Ipt 38 32 37, Im 39 38, Fa 40 39 2 6, Fl 41 39 1 40, Fa 42 39 2 7, Fl 43 39 1 42, Jf 44 39 (.bs .neq (.t 41) (.t 43)), Ipt 45 39 44, Im 46 45, Fa 47 46 5 6, Fl 48 46 1 47, Fa 49 46 5 7, Fl 50 46 1 49, Jf 51 46 (.bs .neq (.t 48) (.t 50)), Ipt 52 46 51, Im 53 52, Fa 54 53 3 6, Fl 55 53 1 54, Fa 56 53 3 7, Fl 57 53 1 56, Jf 58 53 (.call 102 [(.t 55), (.t 57)]), Jf 59 53 (.not (.t 58)), Ipt 60 53 59, Im 61 60, Fa 62 61 4 6, Fl 63 61 1 62, Fa 64 61 4 7, Fl 65 61 1 64, Jf 66 61 (.call 153 [(.t 63), (.t 65)]), Jf 67 61 (.not (.t 66)), Ipt 68 61 67, Im 69 68, Fa 70 69 6 6, Fl 71 69 1 70, Fa 72 69 6 7, Fl 73 69 1 72, Jf 74 69 (.call 154 [(.t 71), (.t 73)]), Jf 75 69 (.not (.t 74)), Ipt 76 69 75])
 (.cond (.t 76) (.seq (.rg [Imb 4 false])
 .ret) .skip))))
 (.rg [Im 17 5, Iai 18 17 1, Im 5 18]))))))
 (.seq (.rg [Imb 4 true])
 .ret)))⟩
theorem ck154:zw Tryz.prog 154 ir154=true:=by kernel_rfl
def ir155 : AFn := ⟨42, 2, [], .seq (.rg [Ibx 3 1])
 (.seq (.rg [Im 4 0, If 5 1 3, Il 6 1 5, Io 7 (.bs .eql (.t 6) (.k (.str []))), Im 8 7, Ja 9 8 3 3, Jl 10 8 1 9, Jt 11 8 (.len (.t 10)), Jt 12 8 (.bi .eql .i64 (.t 11) (.k (.int .i64 0))), Ipf 13 8 12, Im 14 13, Ja 15 14 5 3, Jl 16 14 1 15, Jt 17 14 (.bs .eql (.t 16) (.k (.str []))), Ipf 18 14 17, Im 19 18, Ja 20 19 6 3, Jl 21 19 1 20, Jt 22 19 (.len (.t 21)), Jt 23 19 (.bi .eql .i64 (.t 22) (.k (.int .i64 0))), Ipf 24 19 23, Im 25 24, Ja 26 25 2 3, Jl 27 25 1 26, Jt 28 25 (.bs .neq (.t 27) (.k (.str [111, 110]))), Ipf 29 25 28, Io 30 (.call 70 [(.t 4), (.t 29)])])
 (.seq (.rg [Im 31 0, Io 32 (.bls 1 1 [.str []] [(0, (.k (.str [46, 46, 46])))]), Io 33 (.call 140 [(.t 31), (.t 32)])])
 (.seq (.rg [Im 34 0, If 35 2 3, Il 36 1 35, Io 37 (.call 139 [(.t 34), (.t 36)])])
 (.rg [Im 38 0, If 39 4 3, Il 40 1 39, Io 41 (.call 143 [(.t 38), (.k (.bool false)), (.t 40)])]))))⟩
theorem ck155:zw Tryz.prog 155 ir155=true:=by kernel_rfl
def ir156 : AFn := ⟨40, 2, [], .seq (.rg [Ibx 3 1])
 (.seq (.rg [Im 4 0, If 5 1 3, Il 6 1 5, Io 7 (.bs .eql (.t 6) (.k (.str []))), Im 8 7, Ja 9 8 2 3, Jl 10 8 1 9, Jt 11 8 (.bs .eql (.t 10) (.k (.str []))), Ipf 12 8 11, Im 13 12, Ja 14 13 3 3, Jl 15 13 1 14, Jt 16 13 (.len (.t 15)), Jt 17 13 (.bi .eql .i64 (.t 16) (.k (.int .i64 0))), Ipf 18 13 17, Io 19 (.call 70 [(.t 4), (.t 18)])])
 (.seq (.rg [Im 20 0, Io 21 (.bls 1 1 [.str []] [(0, (.k (.str [46, 46, 46])))]), Io 22 (.call 140 [(.t 20), (.t 21)])])
 (.seq (.seq (.rg [If 23 5 3, Il 24 1 23, Io 25 (.bs .neq (.t 24) (.k (.str [])))])
 (.cond (.t 25) (.seq (.rg [Im 26 0, Io 27 (.call 139 [(.t 26), (.k (.str [111, 110]))])])
 (.rg [Im 28 0, If 29 5 3, Il 30 1 29, Io 31 (.call 139 [(.t 28), (.t 30)])])) .skip))
 (.seq (.rg [Im 32 0, If 33 4 3, Il 34 1 33, Io 35 (.call 143 [(.t 32), (.k (.bool false)), (.t 34)])])
 (.rg [Im 36 0, If 37 6 3, Il 38 1 37, Io 39 (.call 144 [(.t 36), (.t 38)])])))))⟩
theorem ck156:zw Tryz.prog 156 ir156=true:=by kernel_rfl
def ir157 : AFn := ⟨36, 3, [], .seq (.seq (.rg [Im 8 2, Iln 9 8, Iei 10 9 0])
 (.cond (.t 10) .ret .skip))
 (.seq (.rg [Im 11 0, Io 12 (.bls 1 1 [.str []] [(0, (.k (.str [40])))]), Io 13 (.call 140 [(.t 11), (.t 12)])])
 (.seq (.seq (.rg [Im 14 2, Iln 15 14, Imv 16 0])
 (.block 0 (.loop [0, 1, 14, 15, 16] (.seq (.rg [Ilt 17 16 15])
 (.seq (.cond (.t 17) .skip (.exit 0))
 (.seq (.block 1 (.seq (.rg [Iia 18 6 14 16, Ilb 19 6 18, Io 7 (.alloc [.str [], .int .i64 0, .int .i64 0, .str [], .sl .nil 5 [], .sl .nil 6 []]), ⟨none, none, .st 6 (.t 7) (.t 19), []⟩])
 (.seq (.rg [Im 20 0, If 21 0 7, Il 22 1 21, Io 23 (.call 139 [(.t 20), (.t 22)])])
 (.seq (.rg [Im 24 0, Io 25 (.bls 1 1 [.str []] [(0, (.k (.str [58])))]), Io 26 (.call 140 [(.t 24), (.t 25)])])
 (.rg [Im 27 0, If 28 1 7, Ilb 29 5 28, Im 30 1, Io 31 (.call 237 [(.t 27), (.t 29), (.t 30)])])))))
 (.rg [Iai 32 16 1, Im 16 32])))))))
 (.rg [Im 33 0, Io 34 (.bls 1 1 [.str []] [(0, (.k (.str [41])))]), Io 35 (.call 140 [(.t 33), (.t 34)])])))⟩
theorem ck157:zw Tryz.prog 157 ir157=true:=by kernel_rfl
def ir160:AFn:=⟨7,2,[],.rg [Im 4 1,Io 5 (.bld [.int .i64 0] [(0,1,(.t 4))]),Io 6 (.mki 186 (.t 5)),⟨none,none,.pan (.t 6),[]⟩]⟩
theorem ck160:zw Tryz.prog 160 ir160=true:=by kernel_rfl
def ir161 : AFn := ⟨10, 2, [.t 4], .seq (.rg [Imb 4 false])
 (.seq (.rg [Im 5 0, Io 6 (.call 174 [(.t 5)]), Im 7 1, Io 8 (.bld [.int .i64 0, .str []] [(0, 1, (.k (.int .i64 1))), (1, 1, (.t 7))]), Io 9 (.eqa false [(.i .i64), .s] (.t 6) (.t 8)), Im 4 9])
 .ret)⟩
theorem ck161:zw Tryz.prog 161 ir161=true:=by kernel_rfl
def ir162 : AFn := ⟨21, 1, [.t 2], .seq (.rg [Io 2 (.mv (.k (.sl .nil 7 [])))])
 (.seq (.seq (.rg [Im 4 0, Io 5 (.call 179 [(.t 4), (.k (.str [123]))]), Ing 6 5])
 (.cond (.t 6) (.rg [Im 7 0, Io 8 (.call 160 [(.t 7), (.k (.int .i64 2))])]) .skip))
 (.seq (.rg [Im 9 0, Io 10 (.call 247 [(.t 9)]), Io 11 (.bls 7 1 [.int .i64 0, .str [], .str [], .sl .nil 6 [], .sl .nil 2 [], .str [], .sl .nil 7 []] [(0, (.t 10))]), Im 3 11])
 (.seq (.block 0 (.loop [0, 3] (.seq (.seq (.rg [Im 12 0, Io 13 (.call 180 [(.t 12), (.k (.str [125]))]), Ing 14 13])
 (.cond (.t 14) .skip (.exit 0)))
 (.block 1 (.rg [Im 15 3, Im 16 0, Io 17 (.call 247 [(.t 16)]), Io 18 (.bls 7 1 [.int .i64 0, .str [], .str [], .sl .nil 6 [], .sl .nil 2 [], .str [], .sl .nil 7 []] [(0, (.t 17))]), Iap 19 7 128 15 18, Im 3 19])))))
 (.seq (.rg [Im 20 3, Im 2 20])
 .ret))))⟩
theorem ck162:zw Tryz.prog 162 ir162=true:=by kernel_rfl
def ir163 : AFn := ⟨18, 2, [.t 4], .seq (.rg [Imb 4 false])
 (.seq (.rg [Im 6 0, Im 7 1, Io 8 (.call 248 [(.t 6), (.t 7)]), Im 5 8])
 (.seq (.seq (.rg [Im 9 5])
 (.cond (.t 9) (.rg [Im 10 0, Ink 11 10, If 12 1 11, Il 13 1 12, Iai 14 13 1, Ink 15 10, If 16 1 15, ⟨none, none, .st 1 (.t 16) (.t 14), []⟩]) .skip))
 (.seq (.rg [Im 17 5, Im 4 17])
 .ret)))⟩
theorem ck163:zw Tryz.prog 163 ir163=true:=by kernel_rfl
def ir164 : AFn := ⟨41, 2, [.c 4 5 true], .seq (.rg [Io 4 (.alloc [.int .i64 0, .str [], .sl .nil 10 [], .sl .nil 2 [], .sl .nil 7 []])])
 (.seq (.rg [Im 6 1, Io 7 (.bld [.int .i64 0, .str [], .sl .nil 10 [], .sl .nil 2 [], .sl .nil 7 []] [(0, 1, (.t 6))]), Io 5 (.alloc [.int .i64 0, .str [], .sl .nil 10 [], .sl .nil 2 [], .sl .nil 7 []]), ⟨none, none, .st 5 (.t 5) (.t 7), []⟩])
 (.seq (.seq (.rg [Im 8 0, Io 9 (.call 174 [(.t 8)]), Io 10 (.fld 0 1 false (.t 9)), Iei 11 10 2])
 (.cond (.t 11) (.rg [Im 12 0, Io 13 (.call 183 [(.t 12)]), If 14 1 5, ⟨none, none, .st 1 (.t 14) (.t 13), []⟩]) .skip))
 (.seq (.seq (.rg [Im 15 0, Io 16 (.call 191 [(.t 15), (.k (.str [40]))])])
 (.cond (.t 16) (.seq (.reg [0, 1, 2, 3, 4, 5, 6, 7] [If 17 2 5, Il 18 1 17, Im 19 0, ⟨some 20, none, .call 249 [(.t 19)], [1]⟩, Io 21 (.bls 10 1 [.str [], .str [], .int .i64 0, .int .i64 0, .bool false, .int .i64 0, .int .i64 0, .str [], .sl .nil 5 [], .sl .nil 6 []] [(0, (.t 20))]), Iap 22 10 136 18 21, If 23 2 5, ⟨none, none, .st 1 (.t 23) (.t 22), []⟩])
 (.block 0 (.loop [0, 4, 5] (.seq (.seq (.rg [Im 24 0, Io 25 (.call 191 [(.t 24), (.k (.str [41]))]), Ing 26 25])
 (.cond (.t 26) .skip (.exit 0)))
 (.block 1 (.reg [0, 1, 2, 3, 4, 5, 6, 7] [If 27 2 5, Il 28 1 27, Im 29 0, ⟨some 30, none, .call 249 [(.t 29)], [1]⟩, Io 31 (.bls 10 1 [.str [], .str [], .int .i64 0, .int .i64 0, .bool false, .int .i64 0, .int .i64 0, .str [], .sl .nil 5 [], .sl .nil 6 []] [(0, (.t 30))]), Iap 32 10 136 28 31, If 33 2 5, ⟨none, none, .st 1 (.t 33) (.t 32), []⟩])))))) .skip))
 (.seq (.rg [Im 34 0, Io 35 (.call 250 [(.t 34), (.k (.bool true))]), If 36 3 5, ⟨none, none, .st 1 (.t 36) (.t 35), []⟩])
 (.seq (.rg [Im 37 0, Io 38 (.call 162 [(.t 37)]), If 39 4 5, ⟨none, none, .st 1 (.t 39) (.t 38), []⟩])
 (.seq (.rg [Ilb 40 5 5, ⟨none, none, .st 5 (.t 4) (.t 40), []⟩])
 .ret))))))⟩
theorem ck164:zw Tryz.prog 164 ir164=true:=by kernel_rfl
def ir165 : AFn := ⟨22, 1, [.c 2 4 true], .seq (.rg [Io 2 (.alloc [.str [], .str [], .sl .nil 2 [], .sl .nil 7 []])])
 (.seq (.rg [Im 4 0, Io 5 (.call 251 [(.t 4)]), Io 6 (.bld [.str [], .str [], .sl .nil 2 [], .sl .nil 7 []] [(0, 1, (.t 5))]), Io 3 (.alloc [.str [], .str [], .sl .nil 2 [], .sl .nil 7 []]), ⟨none, none, .st 4 (.t 3) (.t 6), []⟩])
 (.seq (.seq (.rg [Im 7 0, Io 8 (.call 163 [(.t 7), (.k (.str [111, 110]))]), Ing 9 8])
 (.cond (.t 9) (.rg [Im 10 0, Io 11 (.call 160 [(.t 10), (.k (.int .i64 2))])]) .skip))
 (.seq (.rg [Im 12 0, Io 13 (.call 183 [(.t 12)]), If 14 1 3, ⟨none, none, .st 1 (.t 14) (.t 13), []⟩])
 (.seq (.rg [Im 15 0, Io 16 (.call 250 [(.t 15), (.k (.bool true))]), If 17 2 3, ⟨none, none, .st 1 (.t 17) (.t 16), []⟩])
 (.seq (.rg [Im 18 0, Io 19 (.call 162 [(.t 18)]), If 20 3 3, ⟨none, none, .st 1 (.t 20) (.t 19), []⟩])
 (.seq (.rg [Ilb 21 4 3, ⟨none, none, .st 4 (.t 2) (.t 21), []⟩])
 .ret))))))⟩
theorem ck165:zw Tryz.prog 165 ir165=true:=by kernel_rfl
def ir174 : AFn := ⟨17, 1, [.c 2 2 true], .seq (.rg [Io 2 (.alloc [.int .i64 0, .str []])])
 (.seq (.seq (.rg [Im 3 0, Io 4 (.call 92 [(.t 3)]), Ing 5 4])
 (.cond (.t 5) (.seq (.rg [Io 6 (.bld [.int .i64 0, .str []] []), ⟨none, none, .st 2 (.t 2) (.t 6), []⟩])
 .ret) .skip))
 (.seq (.reg [0, 1, 2, 3, 4, 5, 6, 7, 8, 9, 10] [Im 7 0, Ink 8 7, If 9 0 8, Il 10 1 9, Im 11 0, Ink 12 11, If 13 1 12, Il 14 1 13, Iia 15 2 10 14, Ilb 16 2 15, ⟨none, none, .st 2 (.t 2) (.t 16), []⟩])
 .ret))⟩
theorem ck174:zw Tryz.prog 174 ir174=true:=by kernel_rfl
def ir175 : AFn := ⟨15, 1, [.c 2 5 true], .seq (.rg [Io 2 (.alloc [.int .i64 0, .int .i64 0, .str [], .sl .nil 5 [], .sl .nil 6 []])])
 (.seq (.seq (.rg [Im 3 0])
 (.block 0 (.seq (.rg [Io 5 (.bs .eql (.t 3) (.k (.str [110, 117, 108, 108]))), Im 4 5])
 (.cond (.t 4) (.seq (.rg [Io 6 (.bld [.int .i64 0, .int .i64 0, .str [], .sl .nil 5 [], .sl .nil 6 []] []), ⟨none, none, .st 5 (.t 2) (.t 6), []⟩])
 .ret) (.seq (.rg [Io 8 (.bs .eql (.t 3) (.k (.str [116, 114, 117, 101]))), Im 7 8])
 (.cond (.t 7) (.seq (.rg [Io 9 (.bld [.int .i64 0, .int .i64 0, .str [], .sl .nil 5 [], .sl .nil 6 []] [(0, 1, (.k (.int .i64 1))), (1, 1, (.k (.int .i64 1)))]), ⟨none, none, .st 5 (.t 2) (.t 9), []⟩])
 .ret) (.seq (.rg [Io 11 (.bs .eql (.t 3) (.k (.str [102, 97, 108, 115, 101]))), Im 10 11])
 (.cond (.t 10) (.seq (.rg [Io 12 (.bld [.int .i64 0, .int .i64 0, .str [], .sl .nil 5 [], .sl .nil 6 []] [(0, 1, (.k (.int .i64 1)))]), ⟨none, none, .st 5 (.t 2) (.t 12), []⟩])
 .ret) .skip))))))))
 (.seq (.rg [Im 13 0, Io 14 (.bld [.int .i64 0, .int .i64 0, .str [], .sl .nil 5 [], .sl .nil 6 []] [(0, 1, (.k (.int .i64 5))), (2, 1, (.t 13))]), ⟨none, none, .st 5 (.t 2) (.t 14), []⟩])
 .ret))⟩
theorem ck175:zw Tryz.prog 175 ir175=true:=by kernel_rfl
def ir176 : AFn := ⟨19, 1, [.t 2, .t 3], .seq (.rg [Imv 2 0, Imb 3 false])
 (.seq (.rg [Im 7 0, Io 8 (.call 260 [(.t 7), (.k (.int .i64 10)), (.k (.int .i64 64))]), Im 6 8, Iex 9 6 0, Iex 10 6 1, Im 4 9, Im 5 10])
 (.seq (.rg [Im 11 4, Im 12 5, Io 13 (.ifnil false (.t 12)), Im 14 13, Jm 15 14 0, Jt 16 14 (.call 207 [(.t 15)]), Jt 17 14 (.bi .eql .i64 (.t 16) (.k (.int .i64 3))), Ipf 18 14 17, Im 2 11, Im 3 18])
 .ret))⟩
theorem ck176:zw Tryz.prog 176 ir176=true:=by kernel_rfl
def ir177 : AFn := ⟨5, 1, [.c 2 5 true], .seq (.rg [Io 2 (.alloc [.int .i64 0, .int .i64 0, .str [], .sl .nil 5 [], .sl .nil 6 []])])
 (.seq (.rg [Im 3 0, Io 4 (.bld [.int .i64 0, .int .i64 0, .str [], .sl .nil 5 [], .sl .nil 6 []] [(0, 1, (.k (.int .i64 2))), (1, 1, (.t 3))]), ⟨none, none, .st 5 (.t 2) (.t 4), []⟩])
 .ret)⟩
theorem ck177:zw Tryz.prog 177 ir177=true:=by kernel_rfl
def ir178 : AFn := ⟨5, 1, [.c 2 5 true], .seq (.rg [Io 2 (.alloc [.int .i64 0, .int .i64 0, .str [], .sl .nil 5 [], .sl .nil 6 []])])
 (.seq (.rg [Im 3 0, Io 4 (.bld [.int .i64 0, .int .i64 0, .str [], .sl .nil 5 [], .sl .nil 6 []] [(0, 1, (.k (.int .i64 4))), (2, 1, (.t 3))]), ⟨none, none, .st 5 (.t 2) (.t 4), []⟩])
 .ret)⟩
theorem ck178:zw Tryz.prog 178 ir178=true:=by kernel_rfl
def ir179 : AFn := ⟨28, 2, [.t 4], .seq (.rg [Imb 4 false])
 (.seq (.seq (.rg [Im 5 0, Im 6 1, Io 7 (.call 161 [(.t 5), (.t 6)]), Im 8 7, Jm 9 8 0, Jt 10 8 (.nilchk (.t 9)), Ja 11 8 2 10, Jl 12 8 1 11, Jt 13 8 (.bi .geq .i64 (.t 12) (.k (.int .i64 16))), Ipf 14 8 13])
 (.cond (.t 14) (.rg [Im 15 0, Io 16 (.call 160 [(.t 15), (.k (.int .i64 4))])]) .skip))
 (.seq (.seq (.rg [Im 17 0, Im 18 1, Io 19 (.call 191 [(.t 17), (.t 18)]), Ing 20 19])
 (.cond (.t 20) (.seq (.rg [Imb 4 false])
 .ret) .skip))
 (.seq (.rg [Im 21 0, Ink 22 21, If 23 2 22, Il 24 1 23, Iai 25 24 1, Ink 26 21, If 27 2 26, ⟨none, none, .st 1 (.t 27) (.t 25), []⟩])
 (.seq (.rg [Imb 4 true])
 .ret))))⟩
theorem ck179:zw Tryz.prog 179 ir179=true:=by kernel_rfl
def ir180 : AFn := ⟨16, 2, [.t 4], .seq (.rg [Imb 4 false])
 (.seq (.seq (.rg [Im 5 0, Im 6 1, Io 7 (.call 191 [(.t 5), (.t 6)]), Ing 8 7])
 (.cond (.t 8) (.seq (.rg [Imb 4 false])
 .ret) .skip))
 (.seq (.rg [Im 9 0, Ink 10 9, If 11 2 10, Il 12 1 11, Isi 13 12 1, Ink 14 9, If 15 2 14, ⟨none, none, .st 1 (.t 15) (.t 13), []⟩])
 (.seq (.rg [Imb 4 true])
 .ret)))⟩
theorem ck180:zw Tryz.prog 180 ir180=true:=by kernel_rfl
def ir181 : AFn := ⟨15, 2, [.c 4 6 true], .seq (.rg [Io 4 (.alloc [.str [], .int .i64 0, .int .i64 0, .str [], .sl .nil 5 [], .sl .nil 6 []])])
 (.seq (.rg [Im 6 0, Io 7 (.call 183 [(.t 6)]), Im 5 7])
 (.seq (.rg [Im 8 0, Io 9 (.call 182 [(.t 8), (.k (.str [58]))])])
 (.seq (.rg [Im 10 5, Im 11 0, Im 12 1, Io 13 (.call 96 [(.t 11), (.t 12)]), Io 14 (.bld [.str [], .int .i64 0, .int .i64 0, .str [], .sl .nil 5 [], .sl .nil 6 []] [(0, 1, (.t 10)), (1, 5, (.t 13))]), ⟨none, none, .st 6 (.t 4) (.t 14), []⟩])
 .ret)))⟩
theorem ck181:zw Tryz.prog 181 ir181=true:=by kernel_rfl
def ir182 : AFn := ⟨10, 2, [], .seq (.rg [Im 4 0, Im 5 1, Io 6 (.call 191 [(.t 4), (.t 5)]), Ing 7 6])
 (.cond (.t 7) (.rg [Im 8 0, Io 9 (.call 160 [(.t 8), (.k (.int .i64 2))])]) .skip)⟩
theorem ck182:zw Tryz.prog 182 ir182=true:=by kernel_rfl
def ir183 : AFn := ⟨20, 1, [.t 2], .seq (.rg [Io 2 (.mv (.k (.str [])))])
 (.seq (.rg [Im 4 0, Io 5 (.call 174 [(.t 4)]), Io 3 (.alloc [.int .i64 0, .str []]), ⟨none, none, .st 2 (.t 3) (.t 5), []⟩])
 (.seq (.seq (.rg [If 6 0 3, Il 7 1 6, Io 8 (.bi .neq .i64 (.t 7) (.k (.int .i64 2)))])
 (.cond (.t 8) (.rg [Im 9 0, Io 10 (.call 160 [(.t 9), (.k (.int .i64 2))])]) .skip))
 (.seq (.rg [Im 11 0, Ink 12 11, If 13 1 12, Il 14 1 13, Iai 15 14 1, Ink 16 11, If 17 1 16, ⟨none, none, .st 1 (.t 17) (.t 15), []⟩])
 (.seq (.rg [If 18 1 3, Il 19 1 18, Im 2 19])
 .ret))))⟩
theorem ck183:zw Tryz.prog 183 ir183=true:=by kernel_rfl
def ir191 : AFn := ⟨18, 2, [.t 4], .seq (.rg [Imb 4 false])
 (.seq (.rg [Im 6 0, Im 7 1, Io 8 (.call 161 [(.t 6), (.t 7)]), Im 5 8])
 (.seq (.seq (.rg [Im 9 5])
 (.cond (.t 9) (.rg [Im 10 0, Ink 11 10, If 12 1 11, Il 13 1 12, Iai 14 13 1, Ink 15 10, If 16 1 15, ⟨none, none, .st 1 (.t 16) (.t 14), []⟩]) .skip))
 (.seq (.rg [Im 17 5, Im 4 17])
 .ret)))⟩
theorem ck191:zw Tryz.prog 191 ir191=true:=by kernel_rfl
def ir201 : AFn := ⟨60, 2, [.t 4], .seq (.rg [Ibx 2 0, Imb 4 false])
 (.scope (.seq (.rg [Ilb 11 5 2, Io 5 (.alloc [.int .i64 0, .int .i64 0, .str [], .sl .nil 5 [], .sl .nil 6 []]), ⟨none, none, .st 5 (.t 5) (.t 11), []⟩])
 (.seq (.rg [Imb 6 true])
 (.seq .skip
 (.seq (.seq (.rg [If 12 0 2, Il 13 1 12])
 (.block 0 (.seq (.rg [Iei 17 13 6, Im 16 17])
 (.cond (.t 16) (.seq (.rg [If 18 3 5, ⟨none, none, .st 1 (.t 18) (.k (.sl .nil 5 [])), []⟩])
 (.seq (.rg [If 19 3 2, Il 20 1 19, Iln 21 20, Imv 22 0])
 (.block 1 (.loop [1, 5, 6, 20, 21, 22] (.seq (.rg [Ilt 23 22 21])
 (.seq (.cond (.t 23) .skip (.exit 1))
 (.seq (.block 2 (.seq (.rg [Iia 24 5 20 22, Ilb 25 5 24, Io 8 (.alloc [.int .i64 0, .int .i64 0, .str [], .sl .nil 5 [], .sl .nil 6 []]), ⟨none, none, .st 5 (.t 8) (.t 25), []⟩])
 (.seq (.rg [Ilb 26 5 8, Im 27 1, Io 28 (.call 201 [(.t 26), (.t 27)]), Im 6 28])
 (.seq (.rg [Im 29 6, Ing 30 29])
 (.cond (.t 30) (.exit 0) .skip)))))
 (.rg [Iai 31 22 1, Im 22 31])))))))) (.seq (.rg [Iei 33 13 7, Im 32 33])
 (.cond (.t 32) (.seq (.rg [If 34 4 5, ⟨none, none, .st 1 (.t 34) (.k (.sl .nil 6 [])), []⟩])
 (.seq (.rg [If 35 4 2, Il 36 1 35, Iln 37 36, Imv 38 0])
 (.block 3 (.loop [1, 5, 6, 36, 37, 38] (.seq (.rg [Ilt 39 38 37])
 (.seq (.cond (.t 39) .skip (.exit 3))
 (.seq (.block 4 (.seq (.rg [Iia 40 6 36 38, Ilb 41 6 40, Io 10 (.alloc [.str [], .int .i64 0, .int .i64 0, .str [], .sl .nil 5 [], .sl .nil 6 []]), ⟨none, none, .st 6 (.t 10) (.t 41), []⟩])
 (.seq (.rg [Im 42 1, If 43 0 10, Il 44 1 43, Io 45 (.callv (.t 42) [(.t 44)]), Im 46 45, Ja 47 46 1 10, Jt 48 46 (.ld 5 true (.t 47)), Jm 49 46 1, Jt 50 46 (.call 201 [(.t 48), (.t 49)]), Ipf 51 46 50, Im 6 51])
 (.seq (.rg [Im 52 6, Ing 53 52])
 (.cond (.t 53) (.exit 0) .skip)))))
 (.rg [Iai 54 38 1, Im 38 54])))))))) (.seq (.rg [Ilb 14 5 2, Io 15 (.call 266 [(.t 14)]), Im 4 15])
 .ret)))))))
 (.seq (.rg [Im 55 6, Im 56 55, Jt 57 56 (.ld 5 true (.t 5)), Jt 58 56 (.call 267 [(.t 57)]), Ipf 59 56 58, Im 4 59])
 .ret))))))⟩
theorem ck201:zw Tryz.prog 201 ir201=true:=by kernel_rfl
def ir202 : AFn := ⟨5, 1, [.t 2], .seq (.rg [Imb 2 false])
 (.seq (.rg [Im 3 0, Io 4 (.call 268 [(.t 3)]), Im 2 4])
 .ret)⟩
theorem ck202:zw Tryz.prog 202 ir202=true:=by kernel_rfl
def ir203 : AFn := ⟨28, 1, [.t 2], .seq (.rg [Imb 2 false])
 (.seq (.seq (.rg [Im 4 0, Ils 5 4, Imv 6 0])
 (.block 0 (.loop [0, 5, 6] (.seq (.rg [Ilt 7 6 5])
 (.seq (.cond (.t 7) .skip (.exit 0))
 (.seq (.block 1 (.seq (.rg [Im 8 6, Im 3 8])
 (.seq (.rg [Im 9 0, Im 10 3, Io 11 (.ixs (.t 9) (.t 10)), Io 12 (.call 223 [(.t 11)]), Ing 13 12, Im 14 13, Jm 15 14 3, Jt 16 14 (.bi .eql .i64 (.t 15) (.k (.int .i64 0))), Jm 17 14 16, Fm 18 17 0, Fm 19 17 3, Jf 20 17 (.ixs (.t 18) (.t 19)), Jf 21 17 (.call 226 [(.t 20)]), Jf 22 17 (.not (.t 21)), Jt 23 14 (.pick (.t 17) (.k (.bool true)) (.t 22)), Ipf 24 14 23])
 (.cond (.t 24) (.seq (.rg [Imb 2 false])
 .ret) .skip))))
 (.rg [Iai 25 6 1, Im 6 25])))))))
 (.seq (.rg [Im 26 0, Io 27 (.bs .neq (.t 26) (.k (.str []))), Im 2 27])
 .ret))⟩
theorem ck203:zw Tryz.prog 203 ir203=true:=by kernel_rfl
def ir204 : AFn := ⟨5, 1, [.c 2 2 true], .seq (.rg [Io 2 (.alloc [.int .i64 0, .str []])])
 (.seq (.rg [Im 3 0, Io 4 (.bld [.int .i64 0, .str []] [(0, 1, (.k (.int .i64 2))), (1, 1, (.t 3))]), ⟨none, none, .st 2 (.t 2) (.t 4), []⟩])
 .ret)⟩
theorem ck204:zw Tryz.prog 204 ir204=true:=by kernel_rfl
def ir205 : AFn := ⟨5, 1, [.t 2], .seq (.rg [Io 2 (.mv (.k (.str [])))])
 (.seq (.rg [Im 3 0, Io 4 (.call 269 [(.t 3)]), Im 2 4])
 .ret)⟩
theorem ck205:zw Tryz.prog 205 ir205=true:=by kernel_rfl
def ir207 : AFn := ⟨15, 1, [.t 2], .seq (.rg [Imv 2 0])
 (.seq (.rg [Im 6 0, Io 7 (.call 225 [(.t 6)]), Im 5 7, Iex 8 5 0, Iex 9 5 1, Im 3 8, Im 4 9])
 (.seq (.seq (.rg [Im 10 3, Im 11 0, Ils 12 11, Io 13 (.bi .neq .i64 (.t 10) (.t 12))])
 (.cond (.t 13) (.seq (.rg [Imv 2 0])
 .ret) .skip))
 (.seq (.rg [Im 14 4, Im 2 14])
 .ret)))⟩
theorem ck207:zw Tryz.prog 207 ir207=true:=by kernel_rfl
def ir208 : AFn := ⟨5, 1, [.c 2 2 true], .seq (.rg [Io 2 (.alloc [.int .i64 0, .str []])])
 (.seq (.rg [Im 3 0, Io 4 (.bld [.int .i64 0, .str []] [(0, 1, (.k (.int .i64 1))), (1, 1, (.t 3))]), ⟨none, none, .st 2 (.t 2) (.t 4), []⟩])
 .ret)⟩
theorem ck208:zw Tryz.prog 208 ir208=true:=by kernel_rfl
def ir210 : AFn := ⟨32, 2, [.t 4, .t 5], .seq (.rg [Imv 4 0, Imv 5 0])
 (.seq (.seq (.rg [Im 8 1, Io 9 (.bi .lss .i64 (.t 8) (.k (.int .i64 0))), Im 10 9, Fm 11 10 1, Fm 12 10 0, Jf 13 10 (.lens (.t 12)), Jf 14 10 (.bi .geq .i64 (.t 11) (.t 13)), Ipt 15 10 14])
 (.cond (.t 15) (.seq (.rg [Imv 4 0, Imv 5 0])
 .ret) .skip))
 (.seq (.rg [Im 17 0, Im 18 1, Io 19 (.sls (.t 17) (some (.t 18)) none), Io 20 (.call 272 [(.t 19)]), Im 16 20, Iex 21 16 0, Iex 22 16 1, Im 6 21, Im 7 22])
 (.seq (.seq (.rg [Im 23 6, Io 24 (.bi .eql .i32 (.t 23) (.k (.int .i32 65533))), Im 25 24, Jm 26 25 7, Jt 27 25 (.bi .lss .i64 (.t 26) (.k (.int .i64 2))), Ipf 28 25 27])
 (.cond (.t 28) (.seq (.rg [Imv 4 0, Imv 5 0])
 .ret) .skip))
 (.seq (.rg [Im 29 6, Io 30 (.cvi .i64 (.t 29)), Im 31 7, Im 4 30, Im 5 31])
 .ret))))⟩
theorem ck210:zw Tryz.prog 210 ir210=true:=by kernel_rfl
def ir211 : AFn := ⟨43, 1, [.t 2, .t 3], .seq (.rg [Io 2 (.mv (.k (.sl .nil 1 []))), Imb 3 false])
 (.seq (.rg [Io 4 (.mv (.k (.sl .nil 1 [])))])
 (.seq (.seq (.rg [Imv 5 0])
 (.block 0 (.loop [0, 4, 5] (.seq (.seq (.rg [Im 8 5, Im 9 0, Ils 10 9, Ilt 11 8 10])
 (.cond (.t 11) .skip (.exit 0)))
 (.block 1 (.seq (.rg [Im 13 0, Im 14 5, Io 15 (.call 210 [(.t 13), (.t 14)]), Im 12 15, Iex 16 12 0, Iex 17 12 1, Im 6 16, Im 7 17])
 (.seq (.block 2 (.seq (.rg [Im 23 7, Iei 24 23 0, Im 22 24])
 (.cond (.t 22) (.seq (.rg [Io 2 (.mv (.k (.sl .nil 1 []))), Imb 3 false])
 .ret) (.seq (.rg [Im 26 6, Io 27 (.bi .geq .i64 (.t 26) (.k (.int .i64 65536))), Im 25 27])
 (.cond (.t 25) (.rg [Im 28 4, Im 29 6, Isi 30 29 65536, Io 31 (.bi .quo .i64 (.t 30) (.k (.int .i64 1024))), Io 32 (.bi .add .i64 (.k (.int .i64 55296)) (.t 31)), Im 33 6, Isi 34 33 65536, Io 35 (.bi .rem .i64 (.t 34) (.k (.int .i64 1024))), Io 36 (.bi .add .i64 (.k (.int .i64 56320)) (.t 35)), Io 37 (.bls 1 2 [.int .i64 0] [(0, (.t 32)), (1, (.t 36))]), Iap 38 1 8 28 37, Im 4 38]) (.rg [Im 18 4, Im 19 6, Io 20 (.bls 1 1 [.int .i64 0] [(0, (.t 19))]), Iap 21 1 8 18 20, Im 4 21]))))))
 (.rg [Im 39 5, Im 40 7, Iad 41 39 40, Im 5 41]))))))))
 (.seq (.rg [Im 42 4, Im 2 42, Imb 3 true])
 .ret)))⟩
theorem ck211:zw Tryz.prog 211 ir211=true:=by kernel_rfl
def ir212 : AFn := ⟨23, 2, [.t 4], .seq (.rg [Io 4 (.mv (.k (.sl .nil 1 [])))])
 (.seq (.rg [Im 6 0, Io 7 (.bls 1 2 [.int .u8 0] [(0, (.k (.int .u8 92))), (1, (.k (.int .u8 117)))]), Iap 8 1 1 6 7, Im 0 8])
 (.seq (.seq (.rg [Imv 5 3])
 (.block 0 (.loop [0, 1, 5] (.seq (.seq (.rg [Im 9 5, Io 10 (.bi .geq .i64 (.t 9) (.k (.int .i64 0)))])
 (.cond (.t 10) .skip (.exit 0)))
 (.seq (.block 1 (.rg [Im 13 0, Im 14 1, Im 15 5, Io 16 (.bi .mul .i64 (.k (.int .i64 4)) (.t 15)), Io 17 (.shf .shr (.t 14) (.t 16)), Io 18 (.bi .rem .i64 (.t 17) (.k (.int .i64 16))), Io 19 (.ixs (.k (.str [48, 49, 50, 51, 52, 53, 54, 55, 56, 57, 97, 98, 99, 100, 101, 102])) (.t 18)), Io 20 (.bls 1 1 [.int .u8 0] [(0, (.t 19))]), Iap 21 1 1 13 20, Im 0 21]))
 (.rg [Im 11 5, Isi 12 11 1, Im 5 12]))))))
 (.seq (.rg [Im 22 0, Im 4 22])
 .ret)))⟩
theorem ck212:zw Tryz.prog 212 ir212=true:=by kernel_rfl
def ir216 : AFn := ⟨21, 1, [.t 2], .seq (.rg [Imb 2 false])
 (.seq (.rg [Im 3 0, Iei 4 3 9, Im 5 4, Fm 6 5 0, Jf 7 5 (.bi .eql .i64 (.t 6) (.k (.int .i64 10))), Ipt 8 5 7, Im 9 8, Fm 10 9 0, Jf 11 9 (.bi .eql .i64 (.t 10) (.k (.int .i64 13))), Ipt 12 9 11, Im 13 12, Fm 14 13 0, Jf 15 13 (.bi .geq .i64 (.t 14) (.k (.int .i64 32))), Fm 16 13 15, Jm 17 16 0, Jt 18 16 (.bi .leq .i64 (.t 17) (.k (.int .i64 65535))), Jf 19 13 (.pick (.t 16) (.t 18) (.k (.bool false))), Ipt 20 13 19, Im 2 20])
 .ret)⟩
theorem ck216:zw Tryz.prog 216 ir216=true:=by kernel_rfl
def ir219 : AFn := ⟨38, 1, [.t 2, .t 3], .seq (.rg [Io 2 (.mv (.k (.str []))), Imv 3 0])
 (.scope (.seq (.rg [Io 4 (.mv (.k (.sl .nil 1 [])))])
 (.seq (.rg [Imv 5 3])
 (.seq .skip
 (.seq (.block 0 (.loop [0, 4, 5] (.block 1 (.seq (.block 2 (.seq (.rg [Im 7 5, Im 8 0, Ils 9 8, Io 10 (.bi .geq .i64 (.t 7) (.t 9)), Im 6 10])
 (.cond (.t 6) (.seq (.rg [Io 2 (.mv (.k (.str []))), Imv 3 0])
 .ret) (.seq (.rg [Im 12 0, Im 13 5, Io 14 (.sls (.t 12) (some (.t 13)) none), Io 15 (.call 217 [(.t 14), (.k (.str [34, 34, 34]))]), Im 11 15])
 (.cond (.t 11) (.exit 0) (.seq (.rg [Im 17 0, Im 18 5, Io 19 (.sls (.t 17) (some (.t 18)) none), Io 20 (.call 217 [(.t 19), (.k (.str [92, 34, 34, 34]))]), Im 16 20])
 (.cond (.t 16) (.seq (.rg [Im 21 4, Io 22 (.apps (.t 21) (.k (.str [34, 34, 34]))), Im 4 22])
 (.seq (.rg [Im 23 5, Iai 24 23 4, Im 5 24])
 (.exit 1))) .skip)))))))
 (.seq (.rg [Im 25 4, Im 26 0, Im 27 5, Io 28 (.ixs (.t 26) (.t 27)), Io 29 (.bls 1 1 [.int .u8 0] [(0, (.t 28))]), Iap 30 1 1 25 29, Im 4 30])
 (.rg [Im 31 5, Iai 32 31 1, Im 5 32]))))))
 (.seq (.rg [Im 33 4, Io 34 (.cvb2s (.t 33)), Io 35 (.call 280 [(.t 34)]), Im 36 5, Iai 37 36 3, Im 2 35, Im 3 37])
 .ret))))))⟩
theorem ck219:zw Tryz.prog 219 ir219=true:=by kernel_rfl
def ir220 : AFn := ⟨75, 2, [.t 4, .t 5], .seq (.rg [Io 4 (.mv (.k (.str []))), Imv 5 0])
 (.scope (.seq (.rg [Io 9 (.bld [.sl .nil 1 [], .sl .nil 1 [], .bool false] [(2, 1, (.k (.bool true)))]), Io 10 (.box (.t 9)), Im 6 10])
 (.seq (.rg [Imv 7 1])
 (.seq .skip
 (.seq (.block 0 (.loop [0, 1, 6, 7] (.block 1 (.seq (.block 2 (.seq (.rg [Im 12 7, Im 13 0, Ils 14 13, Io 15 (.bi .geq .i64 (.t 12) (.t 14)), Im 11 15])
 (.cond (.t 11) (.seq (.rg [Io 4 (.mv (.k (.str []))), Imv 5 0])
 .ret) (.seq (.rg [Im 17 0, Im 18 7, Io 19 (.ixs (.t 17) (.t 18)), Io 20 (.bi .eql .u8 (.t 19) (.k (.int .u8 34))), Im 16 20])
 (.cond (.t 16) (.exit 0) (.seq (.rg [Im 22 0, Im 23 7, Io 24 (.ixs (.t 22) (.t 23)), Io 25 (.bi .eql .u8 (.t 24) (.k (.int .u8 92))), Im 21 25])
 (.cond (.t 21) (.seq (.rg [Im 26 6, Im 27 0, Im 28 7, Iai 29 28 1, Io 30 (.sls (.t 27) (some (.t 29)) none), Io 31 (.call 281 [(.t 26), (.t 30)]), Im 8 31])
 (.seq (.seq (.rg [Im 32 8, Iei 33 32 0])
 (.cond (.t 33) (.seq (.rg [Io 4 (.mv (.k (.str []))), Imv 5 0])
 .ret) .skip))
 (.seq (.rg [Im 34 7, Im 35 8, Io 36 (.bi .add .i64 (.k (.int .i64 1)) (.t 35)), Iad 37 34 36, Im 7 37])
 (.exit 1)))) (.seq (.rg [Im 39 1, Im 40 0, Im 41 7, Io 42 (.ixs (.t 40) (.t 41)), Io 43 (.callv (.t 39) [(.t 42)]), Ing 44 43, Im 38 44])
 (.cond (.t 38) (.seq (.rg [Io 4 (.mv (.k (.str []))), Imv 5 0])
 .ret) .skip)))))))))
 (.seq (.rg [Im 45 6, Io 46 (.call 282 [(.t 45)])])
 (.seq (.reg [0, 1, 2, 3, 4, 5, 6, 7, 8, 9, 10, 11, 12] [Im 47 6, Im 48 6, Ink 49 48, If 50 0 49, Il 51 1 50, Im 52 0, Im 53 7, Io 54 (.ixs (.t 52) (.t 53)), Io 55 (.bls 1 1 [.int .u8 0] [(0, (.t 54))]), Iap 56 1 1 51 55, Ink 57 47, If 58 0 57, ⟨none, none, .st 1 (.t 58) (.t 56), []⟩])
 (.rg [Im 59 7, Iai 60 59 1, Im 7 60])))))))
 (.seq (.rg [Im 61 6, Io 62 (.call 282 [(.t 61)])])
 (.seq (.seq (.rg [Im 63 6, Ink 64 63, If 65 2 64, Il 66 1 65, Ing 67 66])
 (.cond (.t 67) (.seq (.rg [Io 4 (.mv (.k (.str []))), Imv 5 0])
 .ret) .skip))
 (.seq (.rg [Im 68 6, Ink 69 68, If 70 0 69, Il 71 1 70, Io 72 (.cvb2s (.t 71)), Im 73 7, Iai 74 73 1, Im 4 72, Im 5 74])
 .ret))))))))⟩
theorem ck220:zw Tryz.prog 220 ir220=true:=by kernel_rfl
def ir221 : AFn := ⟨9, 1, [.t 2], .seq (.rg [Imb 2 false])
 (.seq (.rg [Im 3 0, Io 4 (.bi .neq .u8 (.t 3) (.k (.int .u8 10))), Im 5 4, Jm 6 5 0, Jt 7 5 (.bi .neq .u8 (.t 6) (.k (.int .u8 13))), Ipf 8 5 7, Im 2 8])
 .ret)⟩
theorem ck221:zw Tryz.prog 221 ir221=true:=by kernel_rfl
def ir223 : AFn := ⟨21, 1, [.t 2], .seq (.rg [Imb 2 false])
 (.seq (.rg [Im 3 0, Io 4 (.bi .geq .u8 (.t 3) (.k (.int .u8 97))), Im 5 4, Jm 6 5 0, Jt 7 5 (.bi .leq .u8 (.t 6) (.k (.int .u8 122))), Ipf 8 5 7, Im 9 8, Fm 10 9 0, Jf 11 9 (.bi .geq .u8 (.t 10) (.k (.int .u8 65))), Fm 12 9 11, Jm 13 12 0, Jt 14 12 (.bi .leq .u8 (.t 13) (.k (.int .u8 90))), Jf 15 9 (.pick (.t 12) (.t 14) (.k (.bool false))), Ipt 16 9 15, Im 17 16, Fm 18 17 0, Jf 19 17 (.bi .eql .u8 (.t 18) (.k (.int .u8 95))), Ipt 20 17 19, Im 2 20])
 .ret)⟩
theorem ck223:zw Tryz.prog 223 ir223=true:=by kernel_rfl
def ir224 : AFn := ⟨27, 1, [.t 2], .seq (.rg [Imv 2 0])
 (.seq (.rg [Imv 3 0])
 (.seq (.block 0 (.loop [0, 3] (.seq (.seq (.rg [Im 4 3, Im 5 0, Ils 6 5, Ilt 7 4 6, Im 8 7, Jm 9 8 0, Jm 10 8 3, Jt 11 8 (.ixs (.t 9) (.t 10)), Jt 12 8 (.call 223 [(.t 11)]), Jm 13 8 12, Fm 14 13 3, Jf 15 13 (.bi .gtr .i64 (.t 14) (.k (.int .i64 0))), Fm 16 13 15, Jm 17 16 0, Jm 18 16 3, Jt 19 16 (.ixs (.t 17) (.t 18)), Jt 20 16 (.call 226 [(.t 19)]), Jf 21 13 (.pick (.t 16) (.t 20) (.k (.bool false))), Jt 22 8 (.pick (.t 13) (.k (.bool true)) (.t 21)), Ipf 23 8 22])
 (.cond (.t 23) .skip (.exit 0)))
 (.block 1 (.rg [Im 24 3, Iai 25 24 1, Im 3 25])))))
 (.seq (.rg [Im 26 3, Im 2 26])
 .ret)))⟩
theorem ck224:zw Tryz.prog 224 ir224=true:=by kernel_rfl
def ir225 : AFn := ⟨38, 1, [.t 2, .t 3], .seq (.rg [Imv 2 0, Imv 3 0])
 (.seq (.rg [Im 8 0, Io 9 (.call 284 [(.t 8)]), Im 4 9])
 (.seq (.seq (.rg [Im 10 4, Iei 11 10 0])
 (.cond (.t 11) (.seq (.rg [Imv 2 0, Imv 3 0])
 .ret) .skip))
 (.seq (.rg [Imv 5 3])
 (.seq (.seq (.rg [Im 12 0, Im 13 4, Io 14 (.sls (.t 12) (some (.t 13)) none), Io 15 (.call 217 [(.t 14), (.k (.str [46]))])])
 (.cond (.t 15) (.seq (.rg [Im 16 0, Im 17 4, Iai 18 17 1, Io 19 (.sls (.t 16) (some (.t 18)) none), Io 20 (.call 285 [(.t 19)]), Im 6 20])
 (.seq (.rg [Im 21 6, Igi 22 21 0])
 (.cond (.t 22) (.rg [Im 23 4, Iai 24 23 1, Im 25 6, Iad 26 24 25, Im 4 26, Imv 5 4]) .skip))) .skip))
 (.seq (.seq (.rg [Im 27 0, Im 28 4, Io 29 (.sls (.t 27) (some (.t 28)) none), Io 30 (.call 286 [(.t 29)]), Im 7 30])
 (.seq (.rg [Im 31 7, Igi 32 31 0])
 (.cond (.t 32) (.rg [Im 33 4, Im 34 7, Iad 35 33 34, Im 4 35, Imv 5 4]) .skip)))
 (.seq (.rg [Im 36 4, Im 37 5, Im 2 36, Im 3 37])
 .ret))))))⟩
theorem ck225:zw Tryz.prog 225 ir225=true:=by kernel_rfl
def ir226 : AFn := ⟨9, 1, [.t 2], .seq (.rg [Imb 2 false])
 (.seq (.rg [Im 3 0, Io 4 (.bi .geq .u8 (.t 3) (.k (.int .u8 48))), Im 5 4, Jm 6 5 0, Jt 7 5 (.bi .leq .u8 (.t 6) (.k (.int .u8 57))), Ipf 8 5 7, Im 2 8])
 .ret)⟩
theorem ck226:zw Tryz.prog 226 ir226=true:=by kernel_rfl
def ir229 : AFn := ⟨9, 2, [.t 4], .seq (.rg [Imb 4 false])
 (.seq (.rg [Im 5 0, Im 6 1, Io 7 (.call 289 [(.t 5), (.t 6)]), Io 8 (.bi .geq .i64 (.t 7) (.k (.int .i64 0))), Im 4 8])
 .ret)⟩
theorem ck229:zw Tryz.prog 229 ir229=true:=by kernel_rfl
def ir237 : AFn := ⟨45, 3, [], .seq (.rg [Ibx 4 1])
 (.seq (.rg [Ilb 9 5 4, Io 10 (.call 55 [(.t 9)]), Im 8 10, Iex 11 8 0, Iex 12 8 1, Im 6 11, Im 7 12])
 (.seq (.reg [0, 1, 2, 3, 4, 5, 6, 7, 8, 9, 10, 11, 12, 13, 14, 15, 16, 17, 18, 19, 20, 21, 22] [Im 13 0, Im 14 7, Im 15 14, Jm 16 15 0, Jt 17 15 (.nilchk (.t 16)), Ja 18 15 2 17, Jl 19 15 1 18, Jt 20 15 (.ld 5 true (.t 4)), ⟨some 21, (some (15, true)), .call 116 [(.t 20)], [6]⟩, Jt 22 15 (.bi .add .i64 (.t 19) (.t 21)), Jt 23 15 (.bi .leq .i64 (.t 22) (.k (.int .i64 16))), Ipf 24 15 23, Im 25 24, Jm 26 25 2, Jm 27 25 26, Jt 28 27 (.ld 5 true (.t 4)), Jt 29 27 (.call 60 [(.t 28)]), Jt 30 27 (.len (.t 29)), Jt 31 27 (.bi .gtr .i64 (.t 30) (.k (.int .i64 0))), Jt 32 25 (.pick (.t 27) (.t 31) (.k (.bool false))), Jt 33 25 (.not (.t 32)), Ipf 34 25 33, Io 35 (.call 70 [(.t 13), (.t 34)])])
 (.rg [Im 36 0, Im 37 0, Ink 38 37, If 39 0 38, Il 40 1 39, Im 41 6, Iap 42 2 24 40 41, Ink 43 36, If 44 0 43, ⟨none, none, .st 1 (.t 44) (.t 42), []⟩])))⟩
theorem ck237:zw Tryz.prog 237 ir237=true:=by kernel_rfl
def ir247 : AFn := ⟨31, 1, [.c 2 7 true], .seq (.rg [Io 2 (.alloc [.int .i64 0, .str [], .str [], .sl .nil 6 [], .sl .nil 2 [], .str [], .sl .nil 7 []])])
 (.seq (.seq (.rg [Im 4 0, Io 5 (.call 191 [(.t 4), (.k (.str [46, 46, 46]))])])
 (.cond (.t 5) (.seq (.rg [Im 6 0, Io 7 (.call 299 [(.t 6)]), ⟨none, none, .st 7 (.t 2) (.t 7), []⟩])
 .ret) .skip))
 (.seq (.rg [Im 8 0, Io 9 (.call 183 [(.t 8)]), Io 10 (.bld [.int .i64 0, .str [], .str [], .sl .nil 6 [], .sl .nil 2 [], .str [], .sl .nil 7 []] [(2, 1, (.t 9))]), Io 3 (.alloc [.int .i64 0, .str [], .str [], .sl .nil 6 [], .sl .nil 2 [], .str [], .sl .nil 7 []]), ⟨none, none, .st 7 (.t 3) (.t 10), []⟩])
 (.seq (.seq (.rg [Im 11 0, Io 12 (.call 191 [(.t 11), (.k (.str [58]))])])
 (.cond (.t 12) (.reg [0, 1, 2, 4, 3, 5, 6, 7] [If 13 2 3, Il 14 1 13, Im 15 0, If 17 1 3, ⟨some 16, none, .call 183 [(.t 15)], [1]⟩, ⟨none, none, .st 1 (.t 17) (.t 14), []⟩, If 18 2 3, ⟨none, none, .st 1 (.t 18) (.t 16), []⟩]) .skip))
 (.seq (.rg [Im 19 0, Io 20 (.call 300 [(.t 19), (.k (.bool false))]), If 21 3 3, ⟨none, none, .st 1 (.t 21) (.t 20), []⟩])
 (.seq (.rg [Im 22 0, Io 23 (.call 250 [(.t 22), (.k (.bool false))]), If 24 4 3, ⟨none, none, .st 1 (.t 24) (.t 23), []⟩])
 (.seq (.seq (.rg [Im 25 0, Io 26 (.call 161 [(.t 25), (.k (.str [123]))])])
 (.cond (.t 26) (.rg [Im 27 0, Io 28 (.call 162 [(.t 27)]), If 29 6 3, ⟨none, none, .st 1 (.t 29) (.t 28), []⟩]) .skip))
 (.seq (.rg [Ilb 30 7 3, ⟨none, none, .st 7 (.t 2) (.t 30), []⟩])
 .ret)))))))⟩
theorem ck247:zw Tryz.prog 247 ir247=true:=by kernel_rfl
def ir248 : AFn := ⟨10, 2, [.t 4], .seq (.rg [Imb 4 false])
 (.seq (.rg [Im 5 0, Io 6 (.call 174 [(.t 5)]), Im 7 1, Io 8 (.bld [.int .i64 0, .str []] [(0, 1, (.k (.int .i64 2))), (1, 1, (.t 7))]), Io 9 (.eqa false [(.i .i64), .s] (.t 6) (.t 8)), Im 4 9])
 .ret)⟩
theorem ck248:zw Tryz.prog 248 ir248=true:=by kernel_rfl
def ir249 : AFn := ⟨21, 1, [.c 2 10 true], .seq (.rg [Io 2 (.alloc [.str [], .str [], .int .i64 0, .int .i64 0, .bool false, .int .i64 0, .int .i64 0, .str [], .sl .nil 5 [], .sl .nil 6 []])])
 (.seq (.rg [Im 4 0, Io 5 (.call 182 [(.t 4), (.k (.str [36]))])])
 (.seq (.rg [Im 6 0, Io 7 (.call 183 [(.t 6)]), Io 8 (.bld [.str [], .str [], .int .i64 0, .int .i64 0, .bool false, .int .i64 0, .int .i64 0, .str [], .sl .nil 5 [], .sl .nil 6 []] [(0, 1, (.t 7))]), Io 3 (.alloc [.str [], .str [], .int .i64 0, .int .i64 0, .bool false, .int .i64 0, .int .i64 0, .str [], .sl .nil 5 [], .sl .nil 6 []]), ⟨none, none, .st 10 (.t 3) (.t 8), []⟩])
 (.seq (.rg [Im 9 0, Io 10 (.call 182 [(.t 9), (.k (.str [58]))])])
 (.seq (.rg [Im 11 0, Io 12 (.call 100 [(.t 11)]), If 13 1 3, ⟨none, none, .st 3 (.t 13) (.t 12), []⟩])
 (.seq (.seq (.rg [Im 14 0, Io 15 (.call 191 [(.t 14), (.k (.str [61]))])])
 (.cond (.t 15) (.rg [Im 16 0, Io 17 (.call 96 [(.t 16), (.k (.bool true))]), If 18 4 3, ⟨none, none, .st 1 (.t 18) (.k (.bool true)), []⟩, If 19 5 3, ⟨none, none, .st 5 (.t 19) (.t 17), []⟩]) .skip))
 (.seq (.rg [Ilb 20 10 3, ⟨none, none, .st 10 (.t 2) (.t 20), []⟩])
 .ret))))))⟩
theorem ck249:zw Tryz.prog 249 ir249=true:=by kernel_rfl
def ir250 : AFn := ⟨18, 2, [.t 4], .seq (.rg [Io 4 (.mv (.k (.sl .nil 2 [])))])
 (.seq (.rg [Io 5 (.mv (.k (.sl .nil 2 [])))])
 (.seq (.block 0 (.loop [0, 1, 5] (.seq (.seq (.rg [Im 6 0, Io 7 (.call 191 [(.t 6), (.k (.str [64]))])])
 (.cond (.t 7) .skip (.exit 0)))
 (.block 1 (.rg [Im 8 5, Im 9 0, Io 10 (.call 183 [(.t 9)]), Im 11 0, Im 12 1, Io 13 (.call 300 [(.t 11), (.t 12)]), Io 14 (.bld [.str [], .sl .nil 6 []] [(0, 1, (.t 10)), (1, 1, (.t 13))]), Io 15 (.bls 2 1 [.str [], .sl .nil 6 []] [(0, (.t 14))]), Iap 16 2 40 8 15, Im 5 16])))))
 (.seq (.rg [Im 17 5, Im 4 17])
 .ret)))⟩
theorem ck250:zw Tryz.prog 250 ir250=true:=by kernel_rfl
def ir251 : AFn := ⟨9, 1, [.t 2], .seq (.rg [Io 2 (.mv (.k (.str [])))])
 (.seq (.seq (.rg [Im 3 0, Io 4 (.call 248 [(.t 3), (.k (.str [111, 110]))])])
 (.cond (.t 4) (.rg [Im 5 0, Io 6 (.call 160 [(.t 5), (.k (.int .i64 2))])]) .skip))
 (.seq (.rg [Im 7 0, Io 8 (.call 183 [(.t 7)]), Im 2 8])
 .ret))⟩
theorem ck251:zw Tryz.prog 251 ir251=true:=by kernel_rfl
def ir266 : AFn := ⟨88, 1, [.t 2], .seq (.rg [Ibx 1 0, Imb 2 false])
 (.seq (.rg [Ilb 4 5 1, Io 3 (.alloc [.int .i64 0, .int .i64 0, .str [], .sl .nil 5 [], .sl .nil 6 []]), ⟨none, none, .st 5 (.t 3) (.t 4), []⟩])
 (.seq (.rg [If 5 1 3, ⟨none, none, .st 1 (.t 5) (.k (.int .i64 0)), []⟩, If 6 2 3, ⟨none, none, .st 1 (.t 6) (.k (.str [])), []⟩])
 (.seq (.seq (.rg [Ilb 7 5 3, Io 8 (.call 267 [(.t 7)]), Ing 9 8])
 (.cond (.t 9) (.seq (.rg [Imb 2 false])
 .ret) .skip))
 (.seq (.seq (.rg [If 10 0 1, Il 11 1 10])
 (.block 0 (.seq (.rg [Iei 13 11 0, Im 12 13])
 (.cond (.t 12) (.seq (.rg [If 14 1 1, Il 15 1 14, Iei 16 15 0, Im 17 16, Ja 18 17 2 1, Jl 19 17 1 18, Jt 20 17 (.bs .eql (.t 19) (.k (.str []))), Ipf 21 17 20, Im 2 21])
 .ret) (.seq (.rg [Iei 23 11 1, Im 22 23])
 (.cond (.t 22) (.seq (.rg [If 24 1 1, Il 25 1 24, Iei 26 25 0, Im 27 26, Fa 28 27 1 1, Fl 29 27 1 28, Jf 30 27 (.bi .eql .i64 (.t 29) (.k (.int .i64 1))), Ipt 31 27 30, Im 32 31, Ja 33 32 2 1, Jl 34 32 1 33, Jt 35 32 (.bs .eql (.t 34) (.k (.str []))), Ipf 36 32 35, Im 2 36])
 .ret) (.seq (.rg [Iei 38 11 2, Im 37 38])
 (.cond (.t 37) (.seq (.rg [If 39 2 1, Il 40 1 39, Io 41 (.bs .eql (.t 40) (.k (.str []))), Im 2 41])
 .ret) (.seq (.rg [Iei 43 11 3, Im 42 43])
 (.cond (.t 42) (.seq (.rg [If 44 1 1, Il 45 1 44, Iei 46 45 0, Im 47 46, Ja 48 47 2 1, Jl 49 47 1 48, Jt 50 47 (.call 309 [(.t 49)]), Ipf 51 47 50, Im 2 51])
 .ret) (.seq (.rg [Iei 53 11 4, Im 52 53])
 (.cond (.t 52) (.seq (.rg [If 54 1 1, Il 55 1 54, Iei 56 55 0, Im 57 56, Ja 58 57 2 1, Jl 59 57 1 58, Jt 60 57 (.call 202 [(.t 59)]), Ipf 61 57 60, Im 2 61])
 .ret) (.seq (.rg [Iei 63 11 5, Im 62 63])
 (.cond (.t 62) (.seq (.rg [If 64 1 1, Il 65 1 64, Iei 66 65 0, Im 67 66, Ja 68 67 2 1, Jl 69 67 1 68, Jt 70 67 (.call 203 [(.t 69)]), Ipf 71 67 70, Im 72 71, Ja 73 72 2 1, Jl 74 72 1 73, Jt 75 72 (.call 310 [(.t 74)]), Jt 76 72 (.not (.t 75)), Ipf 77 72 76, Im 2 77])
 .ret) (.seq (.rg [Iei 79 11 8, Im 78 79])
 (.cond (.t 78) (.seq (.rg [If 80 1 1, Il 81 1 80, Iei 82 81 0, Im 83 82, Ja 84 83 2 1, Jl 85 83 1 84, Jt 86 83 (.call 203 [(.t 85)]), Ipf 87 83 86, Im 2 87])
 .ret) .skip))))))))))))))))
 (.seq (.rg [Imb 2 false])
 .ret)))))⟩
theorem ck266:zw Tryz.prog 266 ir266=true:=by kernel_rfl
def ir267 : AFn := ⟨23, 1, [.t 2], .seq (.rg [Ibx 1 0, Imb 2 false])
 (.seq (.rg [If 3 1 1, Il 4 1 3, Iei 5 4 0, Im 6 5, Ja 7 6 2 1, Jl 8 6 1 7, Jt 9 6 (.bs .eql (.t 8) (.k (.str []))), Ipf 10 6 9, Im 11 10, Ja 12 11 3 1, Jl 13 11 1 12, Jt 14 11 (.len (.t 13)), Jt 15 11 (.bi .eql .i64 (.t 14) (.k (.int .i64 0))), Ipf 16 11 15, Im 17 16, Ja 18 17 4 1, Jl 19 17 1 18, Jt 20 17 (.len (.t 19)), Jt 21 17 (.bi .eql .i64 (.t 20) (.k (.int .i64 0))), Ipf 22 17 21, Im 2 22])
 .ret)⟩
theorem ck267:zw Tryz.prog 267 ir267=true:=by kernel_rfl
def ir269 : AFn := ⟨4, 1, [.t 2], .seq (.rg [Io 2 (.mv (.k (.str [])))])
 (.seq (.seq (.rg [Im 3 0])
 (.cond (.t 3) (.seq (.rg [Io 2 (.mv (.k (.str [116, 114, 117, 101])))])
 .ret) .skip))
 (.seq (.rg [Io 2 (.mv (.k (.str [102, 97, 108, 115, 101])))])
 .ret))⟩
theorem ck269:zw Tryz.prog 269 ir269=true:=by kernel_rfl
def ir280 : AFn := ⟨63, 1, [.t 2], .seq (.rg [Io 2 (.mv (.k (.str [])))])
 (.seq (.rg [Im 6 0, Io 7 (.call 323 [(.t 6)]), Im 3 7])
 (.seq (.seq (.rg [Im 8 3, Io 9 (.call 324 [(.t 8)]), Im 4 9])
 (.seq (.rg [Im 10 4, Igi 11 10 0])
 (.cond (.t 11) (.seq (.rg [Imv 5 1])
 (.block 0 (.loop [3, 4, 5] (.seq (.seq (.rg [Im 12 5, Im 13 3, Iln 14 13, Ilt 15 12 14])
 (.cond (.t 15) .skip (.exit 0)))
 (.seq (.block 1 (.reg [0, 1, 2, 3, 4, 5, 6, 7, 8, 9, 10, 11, 12, 13, 14, 15] [Im 18 3, Im 19 5, Im 20 3, Im 21 5, Iia 22 1 20 21, Il 23 1 22, Im 24 4, Im 25 3, Im 26 5, Iia 27 1 25 26, Il 28 1 27, Ils 29 28, Io 30 (.mm false (.t 24) [(.t 29)]), Io 31 (.sls (.t 23) (some (.t 30)) none), Iia 32 1 18 19, ⟨none, none, .st 1 (.t 32) (.t 31), []⟩]))
 (.rg [Im 16 5, Iai 17 16 1, Im 5 17])))))) .skip)))
 (.seq (.block 2 (.loop [3] (.seq (.seq (.rg [Im 33 3, Iln 34 33, Igi 35 34 0, Im 36 35, Jm 37 36 3, Jt 38 36 (.ia 1 (.t 37) (.k (.int .i64 0))), Jl 39 36 1 38, Jt 40 36 (.call 325 [(.t 39)]), Ipf 41 36 40])
 (.cond (.t 41) .skip (.exit 2)))
 (.block 3 (.rg [Im 42 3, Io 43 (.sll 1 (.t 42) (some (.k (.int .i64 1))) none none), Im 3 43])))))
 (.seq (.block 4 (.loop [3] (.seq (.seq (.rg [Im 44 3, Iln 45 44, Igi 46 45 0, Im 47 46, Jm 48 47 3, Jm 49 47 3, Jt 50 47 (.len (.t 49)), Jt 51 47 (.bi .sub .i64 (.t 50) (.k (.int .i64 1))), Jt 52 47 (.ia 1 (.t 48) (.t 51)), Jl 53 47 1 52, Jt 54 47 (.call 325 [(.t 53)]), Ipf 55 47 54])
 (.cond (.t 55) .skip (.exit 4)))
 (.block 5 (.rg [Im 56 3, Im 57 3, Iln 58 57, Isi 59 58 1, Io 60 (.sll 1 (.t 56) none (some (.t 59)) none), Im 3 60])))))
 (.seq (.rg [Io 61 (.frz 1 (.t 3)), Io 62 (.call 121 [(.t 61), (.k (.str [10]))]), Im 2 62])
 .ret)))))⟩
theorem ck280:zw Tryz.prog 280 ir280=true:=by kernel_rfl
def ir281 : AFn := ⟨48, 2, [.t 4], .seq (.rg [Imv 4 0])
 (.seq (.seq (.rg [Im 8 1, Io 9 (.call 217 [(.t 8), (.k (.str [117]))])])
 (.cond (.t 9) (.seq (.rg [Im 11 1, Io 12 (.sls (.t 11) (some (.k (.int .i64 1))) none), Io 13 (.call 326 [(.t 12)]), Im 10 13, Iex 14 10 0, Iex 15 10 1, Im 5 14, Im 6 15])
 (.seq (.seq (.rg [Im 16 6, Ing 17 16])
 (.cond (.t 17) (.seq (.rg [Imv 4 0])
 .ret) .skip))
 (.seq (.rg [Im 18 0, Im 19 0, Ink 20 19, If 21 1 20, Il 22 1 21, Im 23 5, Io 24 (.bls 1 1 [.int .i64 0] [(0, (.t 23))]), Iap 25 1 8 22 24, Ink 26 18, If 27 1 26, ⟨none, none, .st 1 (.t 27) (.t 25), []⟩])
 (.seq (.rg [Imv 4 5])
 .ret)))) .skip))
 (.seq (.seq (.rg [Im 28 1, Io 29 (.bs .eql (.t 28) (.k (.str [])))])
 (.cond (.t 29) (.seq (.rg [Imv 4 0])
 .ret) .skip))
 (.seq (.rg [Im 30 1, Io 31 (.ixs (.t 30) (.k (.int .i64 0))), Io 32 (.call 222 [(.k (.str [34, 92, 47, 98, 102, 110, 114, 116])), (.t 31)]), Im 7 32])
 (.seq (.seq (.rg [Im 33 7, Io 34 (.bi .lss .i64 (.t 33) (.k (.int .i64 0)))])
 (.cond (.t 34) (.seq (.rg [Imv 4 0])
 .ret) .skip))
 (.seq (.rg [Im 35 0, Io 36 (.call 282 [(.t 35)])])
 (.seq (.reg [0, 1, 2, 3, 4, 5, 6, 7, 8, 9, 10, 11] [Im 37 0, Im 38 0, Ink 39 38, If 40 0 39, Il 41 1 40, Im 42 7, Io 43 (.ixs (.k (.str [34, 92, 47, 8, 12, 10, 13, 9])) (.t 42)), Io 44 (.bls 1 1 [.int .u8 0] [(0, (.t 43))]), Iap 45 1 1 41 44, Ink 46 37, If 47 0 46, ⟨none, none, .st 1 (.t 47) (.t 45), []⟩])
 (.seq (.rg [Imv 4 1])
 .ret)))))))⟩
theorem ck281:zw Tryz.prog 281 ir281=true:=by kernel_rfl
def ir282 : AFn := ⟨34, 1, [], .seq (.rg [Im 5 0, Ink 6 5, If 7 1 6, Il 8 1 7, Io 9 (.call 327 [(.t 8)]), Im 4 9, Iex 10 4 0, Iex 11 4 1, Im 2 10, Im 3 11])
 (.reg [0, 1, 2, 3, 4, 5, 6, 7, 9, 10, 11, 12, 8, 13, 14, 15, 16, 17, 18, 19, 20, 21, 22, 23, 24] [Im 12 0, Im 13 0, Im 14 0, Im 15 0, Ink 16 15, If 17 0 16, Il 18 1 17, Im 19 2, Im 21 0, Ink 22 21, If 23 2 22, Il 24 1 23, ⟨some 20, none, .apps (.t 18) (.t 19), [11]⟩, Im 25 24, Jm 26 25 3, Ipf 27 25 26, Ink 28 12, If 29 0 28, ⟨none, none, .st 1 (.t 29) (.t 20), []⟩, Ink 30 13, If 31 1 30, ⟨none, none, .st 1 (.t 31) (.k (.sl .nil 1 [])), []⟩, Ink 32 14, If 33 2 32, ⟨none, none, .st 1 (.t 33) (.t 27), []⟩])⟩
theorem ck282:zw Tryz.prog 282 ir282=true:=by kernel_rfl
def ir284 : AFn := ⟨24, 1, [.t 2], .seq (.rg [Imv 2 0])
 (.seq (.rg [Imv 3 0])
 (.seq (.seq (.rg [Im 5 0, Io 6 (.call 217 [(.t 5), (.k (.str [45]))])])
 (.cond (.t 6) (.rg [Imv 3 1]) .skip))
 (.seq (.rg [Im 7 0, Im 8 3, Io 9 (.sls (.t 7) (some (.t 8)) none), Io 10 (.call 285 [(.t 9)]), Im 4 10])
 (.seq (.block 0 (.seq (.rg [Im 12 4, Iei 13 12 0, Im 11 13])
 (.cond (.t 11) (.seq (.rg [Imv 2 0])
 .ret) (.seq (.rg [Im 15 0, Im 16 3, Io 17 (.ixs (.t 15) (.t 16)), Io 18 (.bi .eql .u8 (.t 17) (.k (.int .u8 48))), Im 14 18])
 (.cond (.t 14) (.seq (.rg [Im 19 3, Iai 20 19 1, Im 2 20])
 .ret) .skip)))))
 (.seq (.rg [Im 21 3, Im 22 4, Iad 23 21 22, Im 2 23])
 .ret)))))⟩
theorem ck284:zw Tryz.prog 284 ir284=true:=by kernel_rfl
def ir285 : AFn := ⟨17, 1, [.t 2], .seq (.rg [Imv 2 0])
 (.seq (.rg [Imv 3 0])
 (.seq (.block 0 (.loop [0, 3] (.seq (.seq (.rg [Im 4 3, Im 5 0, Ils 6 5, Ilt 7 4 6, Im 8 7, Jm 9 8 0, Jm 10 8 3, Jt 11 8 (.ixs (.t 9) (.t 10)), Jt 12 8 (.call 226 [(.t 11)]), Ipf 13 8 12])
 (.cond (.t 13) .skip (.exit 0)))
 (.block 1 (.rg [Im 14 3, Iai 15 14 1, Im 3 15])))))
 (.seq (.rg [Im 16 3, Im 2 16])
 .ret)))⟩
theorem ck285:zw Tryz.prog 285 ir285=true:=by kernel_rfl
def ir286 : AFn := ⟨39, 1, [.t 2], .seq (.rg [Imv 2 0])
 (.seq (.seq (.rg [Im 5 0, Io 6 (.bs .eql (.t 5) (.k (.str []))), Im 7 6, Fm 8 7 0, Jf 9 7 (.ixs (.t 8) (.k (.int .i64 0))), Jf 10 7 (.bi .neq .u8 (.t 9) (.k (.int .u8 101))), Fm 11 7 10, Jm 12 11 0, Jt 13 11 (.ixs (.t 12) (.k (.int .i64 0))), Jt 14 11 (.bi .neq .u8 (.t 13) (.k (.int .u8 69))), Jf 15 7 (.pick (.t 11) (.t 14) (.k (.bool false))), Ipt 16 7 15])
 (.cond (.t 16) (.seq (.rg [Imv 2 0])
 .ret) .skip))
 (.seq (.rg [Imv 3 1])
 (.seq (.seq (.rg [Im 17 0, Ils 18 17, Igi 19 18 1, Im 20 19, Jm 21 20 0, Jt 22 20 (.ixs (.t 21) (.k (.int .i64 1))), Jt 23 20 (.bi .eql .u8 (.t 22) (.k (.int .u8 43))), Jm 24 20 23, Fm 25 24 0, Jf 26 24 (.ixs (.t 25) (.k (.int .i64 1))), Jf 27 24 (.bi .eql .u8 (.t 26) (.k (.int .u8 45))), Jt 28 20 (.pick (.t 24) (.k (.bool true)) (.t 27)), Ipf 29 20 28])
 (.cond (.t 29) (.rg [Imv 3 2]) .skip))
 (.seq (.rg [Im 30 0, Im 31 3, Io 32 (.sls (.t 30) (some (.t 31)) none), Io 33 (.call 285 [(.t 32)]), Im 4 33])
 (.seq (.seq (.rg [Im 34 4, Iei 35 34 0])
 (.cond (.t 35) (.seq (.rg [Imv 2 0])
 .ret) .skip))
 (.seq (.rg [Im 36 3, Im 37 4, Iad 38 36 37, Im 2 38])
 .ret))))))⟩
theorem ck286:zw Tryz.prog 286 ir286=true:=by kernel_rfl
def ir289 : AFn := ⟨19, 2, [.t 4], .seq (.rg [Imv 4 0])
 (.seq (.seq (.rg [Im 6 0, Iln 7 6, Imv 8 0])
 (.block 0 (.loop [0, 1, 7, 8] (.seq (.rg [Ilt 9 8 7])
 (.seq (.cond (.t 9) .skip (.exit 0))
 (.seq (.block 1 (.seq (.rg [Im 10 8, Im 5 10])
 (.seq (.rg [Im 11 1, Im 12 0, Im 13 5, Iia 14 1 12 13, Il 15 1 14, Io 16 (.bs .eql (.t 11) (.t 15))])
 (.cond (.t 16) (.seq (.rg [Im 17 5, Im 4 17])
 .ret) .skip))))
 (.rg [Iai 18 8 1, Im 8 18])))))))
 (.seq (.rg [Io 4 (.mv (.k (.int .i64 (-1))))])
 .ret))⟩
theorem ck289:zw Tryz.prog 289 ir289=true:=by kernel_rfl
def ir299 : AFn := ⟨31, 1, [.c 2 7 true], .seq (.rg [Io 2 (.alloc [.int .i64 0, .str [], .str [], .sl .nil 6 [], .sl .nil 2 [], .str [], .sl .nil 7 []])])
 (.seq (.seq (.rg [Im 4 0, Io 5 (.call 174 [(.t 4)]), Io 6 (.fld 0 1 false (.t 5)), Iei 7 6 2, Im 8 7, Jm 9 8 0, Jt 10 8 (.call 248 [(.t 9), (.k (.str [111, 110]))]), Jt 11 8 (.not (.t 10)), Ipf 12 8 11])
 (.cond (.t 12) (.seq (.rg [Im 13 0, Io 14 (.call 183 [(.t 13)]), Im 15 0, Io 16 (.call 250 [(.t 15), (.k (.bool false))]), Io 17 (.bld [.int .i64 0, .str [], .str [], .sl .nil 6 [], .sl .nil 2 [], .str [], .sl .nil 7 []] [(0, 1, (.k (.int .i64 1))), (2, 1, (.t 14)), (4, 1, (.t 16))]), ⟨none, none, .st 7 (.t 2) (.t 17), []⟩])
 .ret) .skip))
 (.seq (.rg [Io 18 (.bld [.int .i64 0, .str [], .str [], .sl .nil 6 [], .sl .nil 2 [], .str [], .sl .nil 7 []] [(0, 1, (.k (.int .i64 2)))]), Io 3 (.alloc [.int .i64 0, .str [], .str [], .sl .nil 6 [], .sl .nil 2 [], .str [], .sl .nil 7 []]), ⟨none, none, .st 7 (.t 3) (.t 18), []⟩])
 (.seq (.seq (.rg [Im 19 0, Io 20 (.call 163 [(.t 19), (.k (.str [111, 110]))])])
 (.cond (.t 20) (.rg [Im 21 0, Io 22 (.call 183 [(.t 21)]), If 23 5 3, ⟨none, none, .st 1 (.t 23) (.t 22), []⟩]) .skip))
 (.seq (.rg [Im 24 0, Io 25 (.call 250 [(.t 24), (.k (.bool false))]), If 26 4 3, ⟨none, none, .st 1 (.t 26) (.t 25), []⟩])
 (.seq (.rg [Im 27 0, Io 28 (.call 162 [(.t 27)]), If 29 6 3, ⟨none, none, .st 1 (.t 29) (.t 28), []⟩])
 (.seq (.rg [Ilb 30 7 3, ⟨none, none, .st 7 (.t 2) (.t 30), []⟩])
 .ret))))))⟩
theorem ck299:zw Tryz.prog 299 ir299=true:=by kernel_rfl
def ir300 : AFn := ⟨23, 2, [.t 4], .seq (.rg [Io 4 (.mv (.k (.sl .nil 6 [])))])
 (.seq (.seq (.rg [Im 6 0, Io 7 (.call 191 [(.t 6), (.k (.str [40]))]), Ing 8 7])
 (.cond (.t 8) (.seq (.rg [Io 4 (.mv (.k (.sl .nil 6 [])))])
 .ret) .skip))
 (.seq (.rg [Im 9 0, Im 10 1, Io 11 (.call 181 [(.t 9), (.t 10)]), Io 12 (.bls 6 1 [.str [], .int .i64 0, .int .i64 0, .str [], .sl .nil 5 [], .sl .nil 6 []] [(0, (.t 11))]), Im 5 12])
 (.seq (.block 0 (.loop [0, 1, 5] (.seq (.seq (.rg [Im 13 0, Io 14 (.call 191 [(.t 13), (.k (.str [41]))]), Ing 15 14])
 (.cond (.t 15) .skip (.exit 0)))
 (.block 1 (.rg [Im 16 5, Im 17 0, Im 18 1, Io 19 (.call 181 [(.t 17), (.t 18)]), Io 20 (.bls 6 1 [.str [], .int .i64 0, .int .i64 0, .str [], .sl .nil 5 [], .sl .nil 6 []] [(0, (.t 19))]), Iap 21 6 96 16 20, Im 5 21])))))
 (.seq (.rg [Im 22 5, Im 4 22])
 .ret))))⟩
theorem ck300:zw Tryz.prog 300 ir300=true:=by kernel_rfl
def ir309 : AFn := ⟨23, 1, [.t 2], .seq (.rg [Imb 2 false])
 (.seq (.rg [Im 6 0, Io 7 (.call 207 [(.t 6)]), Im 3 7])
 (.seq (.rg [Im 9 0, Io 10 (.call 176 [(.t 9)]), Im 8 10, Iex 11 8 0, Iex 12 8 1, Im 4 11, Im 5 12])
 (.seq (.rg [Im 13 3, Iei 14 13 4, Im 15 14, Fm 16 15 3, Jf 17 15 (.bi .eql .i64 (.t 16) (.k (.int .i64 3))), Fm 18 15 17, Jm 19 18 5, Jt 20 18 (.not (.t 19)), Jf 21 15 (.pick (.t 18) (.t 20) (.k (.bool false))), Ipt 22 15 21, Im 2 22])
 .ret)))⟩
theorem ck309:zw Tryz.prog 309 ir309=true:=by kernel_rfl
def ir310 : AFn := ⟨13, 1, [.t 2], .seq (.rg [Imb 2 false])
 (.seq (.rg [Im 3 0, Io 4 (.bs .eql (.t 3) (.k (.str [116, 114, 117, 101]))), Im 5 4, Fm 6 5 0, Jf 7 5 (.bs .eql (.t 6) (.k (.str [102, 97, 108, 115, 101]))), Ipt 8 5 7, Im 9 8, Fm 10 9 0, Jf 11 9 (.bs .eql (.t 10) (.k (.str [110, 117, 108, 108]))), Ipt 12 9 11, Im 2 12])
 .ret)⟩
theorem ck310:zw Tryz.prog 310 ir310=true:=by kernel_rfl
def ir323 : AFn := ⟨57, 1, [.t 2], .seq (.rg [Io 2 (.mv (.k (.sl .nil 1 [])))])
 (.seq (.rg [Io 3 (.mv (.k (.sl .nil 1 [])))])
 (.seq (.rg [Imv 4 0])
 (.seq (.seq (.rg [Imv 5 0])
 (.block 0 (.loop [0, 3, 4, 5] (.seq (.seq (.rg [Im 6 5, Im 7 0, Ils 8 7, Ilt 9 6 8])
 (.cond (.t 9) .skip (.exit 0)))
 (.seq (.block 1 (.seq (.seq (.rg [Im 12 0, Im 13 5, Io 14 (.ixs (.t 12) (.t 13)), Io 15 (.bi .neq .u8 (.t 14) (.k (.int .u8 10))), Im 16 15, Jm 17 16 0, Jm 18 16 5, Jt 19 16 (.ixs (.t 17) (.t 18)), Jt 20 16 (.bi .neq .u8 (.t 19) (.k (.int .u8 13))), Ipf 21 16 20])
 (.cond (.t 21) (.exit 1) .skip))
 (.seq (.rg [Im 22 3, Im 23 0, Im 24 4, Im 25 5, Io 26 (.sls (.t 23) (some (.t 24)) (some (.t 25))), Io 27 (.bls 1 1 [.str []] [(0, (.t 26))]), Io 28 (.appm 1 16 [.str []] (.t 22) (.t 27)), Im 3 28])
 (.seq (.seq (.rg [Im 29 0, Im 30 5, Io 31 (.ixs (.t 29) (.t 30)), Io 32 (.bi .eql .u8 (.t 31) (.k (.int .u8 13))), Im 33 32, Jm 34 33 5, Jt 35 33 (.bi .add .i64 (.t 34) (.k (.int .i64 1))), Jm 36 33 0, Jt 37 33 (.lens (.t 36)), Jt 38 33 (.bi .lss .i64 (.t 35) (.t 37)), Ipf 39 33 38, Im 40 39, Jm 41 40 0, Jm 42 40 5, Jt 43 40 (.bi .add .i64 (.t 42) (.k (.int .i64 1))), Jt 44 40 (.ixs (.t 41) (.t 43)), Jt 45 40 (.bi .eql .u8 (.t 44) (.k (.int .u8 10))), Ipf 46 40 45])
 (.cond (.t 46) (.rg [Im 47 5, Iai 48 47 1, Im 5 48]) .skip))
 (.rg [Im 49 5, Iai 50 49 1, Im 4 50])))))
 (.rg [Im 10 5, Iai 11 10 1, Im 5 11]))))))
 (.seq (.rg [Im 51 3, Im 52 0, Im 53 4, Io 54 (.sls (.t 52) (some (.t 53)) none), Io 55 (.bls 1 1 [.str []] [(0, (.t 54))]), Io 56 (.appm 1 16 [.str []] (.t 51) (.t 55)), Im 2 56])
 .ret))))⟩
theorem ck323:zw Tryz.prog 323 ir323=true:=by kernel_rfl
def ir324 : AFn := ⟨36, 1, [.t 2], .seq (.rg [Imv 2 0])
 (.scope (.seq (.rg [Io 3 (.mv (.k (.int .i64 (-1))))])
 (.seq .skip
 (.seq (.seq (.rg [Im 8 0, Iln 9 8, Imv 10 0])
 (.block 0 (.loop [3, 8, 9, 10] (.seq (.rg [Ilt 11 10 9])
 (.seq (.cond (.t 11) .skip (.exit 0))
 (.seq (.block 1 (.seq (.rg [Im 12 10, Iia 13 1 8 10, Il 14 1 13, Im 4 12, Im 5 14])
 (.seq (.rg [Im 16 5, Io 17 (.call 345 [(.t 16)]), Im 15 17, Iex 18 15 0, Iex 19 15 1, Im 6 18, Im 7 19])
 (.seq (.seq (.rg [Im 20 4, Iei 21 20 0, Im 22 21, Fm 23 22 7, Jf 24 22 (.not (.t 23)), Ipt 25 22 24])
 (.cond (.t 25) (.exit 1) .skip))
 (.seq (.rg [Im 26 3, Io 27 (.bi .lss .i64 (.t 26) (.k (.int .i64 0))), Im 28 27, Fm 29 28 6, Fm 30 28 3, Jf 31 28 (.bi .lss .i64 (.t 29) (.t 30)), Ipt 32 28 31])
 (.cond (.t 32) (.rg [Im 33 6, Im 3 33]) .skip))))))
 (.rg [Iai 34 10 1, Im 10 34])))))))
 (.seq (.rg [Im 35 3, Im 2 35])
 .ret)))))⟩
theorem ck324:zw Tryz.prog 324 ir324=true:=by kernel_rfl
def ir325 : AFn := ⟨12, 1, [.t 2], .seq (.rg [Imb 2 false])
 (.seq (.rg [Im 6 0, Io 7 (.call 345 [(.t 6)]), Im 5 7, Iex 8 5 0, Iex 9 5 1, Im 3 8, Im 4 9])
 (.seq (.rg [Im 10 4, Ing 11 10, Im 2 11])
 .ret))⟩
theorem ck325:zw Tryz.prog 325 ir325=true:=by kernel_rfl
def ir326 : AFn := ⟨44, 1, [.t 2, .t 3], .seq (.rg [Imv 2 0, Imb 3 false])
 (.seq (.seq (.rg [Im 7 0, Ils 8 7, Io 9 (.bi .lss .i64 (.t 8) (.k (.int .i64 4)))])
 (.cond (.t 9) (.seq (.rg [Imv 2 0, Imb 3 false])
 .ret) .skip))
 (.seq (.rg [Imv 4 0])
 (.seq (.seq (.rg [Imv 10 0])
 (.block 0 (.loop [0, 4, 10] (.seq (.rg [Io 11 (.bi .lss .i64 (.t 10) (.k (.int .i64 4)))])
 (.seq (.cond (.t 11) .skip (.exit 0))
 (.seq (.block 1 (.seq (.rg [Im 12 10, Im 5 12])
 (.seq (.rg [Im 13 0, Im 14 5, Io 15 (.ixs (.t 13) (.t 14)), Io 16 (.bi .or .u8 (.t 15) (.k (.int .u8 32))), Io 17 (.call 222 [(.k (.str [48, 49, 50, 51, 52, 53, 54, 55, 56, 57, 97, 98, 99, 100, 101, 102])), (.t 16)]), Im 6 17])
 (.seq (.seq (.rg [Im 18 6, Io 19 (.bi .lss .i64 (.t 18) (.k (.int .i64 0))), Im 20 19, Fm 21 20 0, Fm 22 20 5, Jf 23 20 (.ixs (.t 21) (.t 22)), Jf 24 20 (.bi .lss .u8 (.t 23) (.k (.int .u8 48))), Ipt 25 20 24, Im 26 25, Fm 27 26 0, Fm 28 26 5, Jf 29 26 (.ixs (.t 27) (.t 28)), Jf 30 26 (.bi .gtr .u8 (.t 29) (.k (.int .u8 57))), Fm 31 26 30, Jm 32 31 0, Jm 33 31 5, Jt 34 31 (.ixs (.t 32) (.t 33)), Jt 35 31 (.bi .lss .u8 (.t 34) (.k (.int .u8 65))), Jf 36 26 (.pick (.t 31) (.t 35) (.k (.bool false))), Ipt 37 26 36])
 (.cond (.t 37) (.seq (.rg [Imv 2 0, Imb 3 false])
 .ret) .skip))
 (.rg [Im 38 4, Io 39 (.bi .mul .i64 (.k (.int .i64 16)) (.t 38)), Im 40 6, Iad 41 39 40, Im 4 41])))))
 (.rg [Iai 42 10 1, Im 10 42])))))))
 (.seq (.rg [Im 43 4, Im 2 43, Imb 3 true])
 .ret))))⟩
theorem ck326:zw Tryz.prog 326 ir326=true:=by kernel_rfl
def ir327 : AFn := ⟨75, 1, [.t 2, .t 3], .seq (.rg [Io 2 (.mv (.k (.str []))), Imb 3 false])
 (.seq (.rg [Io 4 (.mv (.k (.sl .nil 1 [])))])
 (.seq (.seq (.rg [Imv 5 0])
 (.block 0 (.loop [0, 4, 5] (.seq (.seq (.rg [Im 7 5, Im 8 0, Iln 9 8, Ilt 10 7 9])
 (.cond (.t 10) .skip (.exit 0)))
 (.seq (.block 1 (.seq (.rg [Im 13 0, Im 14 5, Iia 15 1 13 14, Il 16 1 15, Im 6 16])
 (.seq (.block 2 (.seq (.rg [Im 18 6, Io 19 (.bi .lss .i64 (.t 18) (.k (.int .i64 0))), Im 20 19, Fm 21 20 6, Jf 22 20 (.bi .gtr .i64 (.t 21) (.k (.int .i64 65535))), Ipt 23 20 22, Im 24 23, Fm 25 24 6, Jf 26 24 (.bi .geq .i64 (.t 25) (.k (.int .i64 56320))), Fm 27 24 26, Jm 28 27 6, Jt 29 27 (.bi .leq .i64 (.t 28) (.k (.int .i64 57343))), Jf 30 24 (.pick (.t 27) (.t 29) (.k (.bool false))), Ipt 31 24 30, Im 17 31])
 (.cond (.t 17) (.seq (.rg [Io 2 (.mv (.k (.str []))), Imb 3 false])
 .ret) (.seq (.rg [Im 33 6, Io 34 (.bi .geq .i64 (.t 33) (.k (.int .i64 55296))), Im 35 34, Jm 36 35 6, Jt 37 35 (.bi .lss .i64 (.t 36) (.k (.int .i64 56320))), Ipf 38 35 37, Im 32 38])
 (.cond (.t 32) (.seq (.rg [Im 39 5, Iai 40 39 1, Im 5 40])
 (.seq (.seq (.rg [Im 41 5, Im 42 0, Iln 43 42, Io 44 (.bi .eql .i64 (.t 41) (.t 43)), Im 45 44, Fm 46 45 0, Fm 47 45 5, Jf 48 45 (.ia 1 (.t 46) (.t 47)), Fl 49 45 1 48, Jf 50 45 (.bi .lss .i64 (.t 49) (.k (.int .i64 56320))), Ipt 51 45 50, Im 52 51, Fm 53 52 0, Fm 54 52 5, Jf 55 52 (.ia 1 (.t 53) (.t 54)), Fl 56 52 1 55, Jf 57 52 (.bi .gtr .i64 (.t 56) (.k (.int .i64 57343))), Ipt 58 52 57])
 (.cond (.t 58) (.seq (.rg [Io 2 (.mv (.k (.str []))), Imb 3 false])
 .ret) .skip))
 (.rg [Im 59 6, Isi 60 59 55296, Io 61 (.bi .mul .i64 (.k (.int .i64 1024)) (.t 60)), Io 62 (.bi .add .i64 (.k (.int .i64 65536)) (.t 61)), Im 63 0, Im 64 5, Iia 65 1 63 64, Il 66 1 65, Iad 67 62 66, Isi 68 67 56320, Im 6 68]))) .skip)))))
 (.rg [Im 69 4, Im 70 6, Io 71 (.cvi .i32 (.t 70)), Io 72 (.call 346 [(.t 69), (.t 71)]), Im 4 72]))))
 (.rg [Im 11 5, Iai 12 11 1, Im 5 12]))))))
 (.seq (.rg [Im 73 4, Io 74 (.cvb2s (.t 73)), Im 2 74, Imb 3 true])
 .ret)))⟩
theorem ck327:zw Tryz.prog 327 ir327=true:=by kernel_rfl
def ir345 : AFn := ⟨24, 1, [.t 2, .t 3], .seq (.rg [Imv 2 0, Imb 3 false])
 (.seq (.seq (.rg [Im 5 0, Ils 6 5, Imv 7 0])
 (.block 0 (.loop [0, 6, 7] (.seq (.rg [Ilt 8 7 6])
 (.seq (.cond (.t 8) .skip (.exit 0))
 (.seq (.block 1 (.seq (.rg [Im 9 7, Im 4 9])
 (.seq (.rg [Im 10 0, Im 11 4, Io 12 (.ixs (.t 10) (.t 11)), Io 13 (.bi .neq .u8 (.t 12) (.k (.int .u8 9))), Im 14 13, Jm 15 14 0, Jm 16 14 4, Jt 17 14 (.ixs (.t 15) (.t 16)), Jt 18 14 (.bi .neq .u8 (.t 17) (.k (.int .u8 32))), Ipf 19 14 18])
 (.cond (.t 19) (.seq (.rg [Im 20 4, Im 2 20, Imb 3 true])
 .ret) .skip))))
 (.rg [Iai 21 7 1, Im 7 21])))))))
 (.seq (.rg [Im 22 0, Ils 23 22, Im 2 23, Imb 3 false])
 .ret))⟩
theorem ck345:zw Tryz.prog 345 ir345=true:=by kernel_rfl
def ir346 : AFn := ⟨16, 2, [.t 4], .seq (.rg [Io 4 (.mv (.k (.sl .nil 1 [])))])
 (.seq (.seq (.rg [Im 5 1, Io 6 (.cvi .u32 (.t 5)), Io 7 (.bi .leq .u32 (.t 6) (.k (.int .u32 127)))])
 (.cond (.t 7) (.seq (.rg [Im 8 0, Im 9 1, Io 10 (.cvi .u8 (.t 9)), Io 11 (.bls 1 1 [.int .u8 0] [(0, (.t 10))]), Iap 12 1 1 8 11, Im 4 12])
 .ret) .skip))
 (.seq (.rg [Im 13 0, Im 14 1, Io 15 (.call 356 [(.t 13), (.t 14)]), Im 4 15])
 .ret))⟩
theorem ck346:zw Tryz.prog 346 ir346=true:=by kernel_rfl
def ir356 : AFn := ⟨78, 2, [.t 4], .seq (.rg [Io 4 (.mv (.k (.sl .nil 1 [])))])
 (.seq (.rg [Im 6 1, Io 7 (.cvi .u32 (.t 6)), Im 5 7])
 (.block 0 (.seq (.rg [Im 12 5, Io 13 (.bi .leq .u32 (.t 12) (.k (.int .u32 2047))), Im 11 13])
 (.cond (.t 11) (.seq (.rg [Im 14 0, Im 15 1, Io 16 (.shf .shr (.t 15) (.k (.int .u64 6))), Io 17 (.cvi .u8 (.t 16)), Io 18 (.bi .or .u8 (.k (.int .u8 192)) (.t 17)), Im 19 1, Io 20 (.cvi .u8 (.t 19)), Io 21 (.bi .and .u8 (.t 20) (.k (.int .u8 63))), Io 22 (.bi .or .u8 (.k (.int .u8 128)) (.t 21)), Io 23 (.bls 1 2 [.int .u8 0] [(0, (.t 18)), (1, (.t 22))]), Iap 24 1 1 14 23, Im 4 24])
 .ret) (.seq (.seq (.rg [Im 26 5, Io 27 (.bi .lss .u32 (.t 26) (.k (.int .u32 55296))), Im 25 27])
 (.cond (.t 25) .skip (.rg [Im 28 5, Io 29 (.bi .lss .u32 (.k (.int .u32 57343)) (.t 28)), Im 30 29, Jm 31 30 5, Jt 32 30 (.bi .leq .u32 (.t 31) (.k (.int .u32 65535))), Ipf 33 30 32, Im 25 33])))
 (.cond (.t 25) (.seq (.rg [Im 34 0, Im 35 1, Io 36 (.shf .shr (.t 35) (.k (.int .u64 12))), Io 37 (.cvi .u8 (.t 36)), Io 38 (.bi .or .u8 (.k (.int .u8 224)) (.t 37)), Im 39 1, Io 40 (.shf .shr (.t 39) (.k (.int .u64 6))), Io 41 (.cvi .u8 (.t 40)), Io 42 (.bi .and .u8 (.t 41) (.k (.int .u8 63))), Io 43 (.bi .or .u8 (.k (.int .u8 128)) (.t 42)), Im 44 1, Io 45 (.cvi .u8 (.t 44)), Io 46 (.bi .and .u8 (.t 45) (.k (.int .u8 63))), Io 47 (.bi .or .u8 (.k (.int .u8 128)) (.t 46)), Io 48 (.bls 1 3 [.int .u8 0] [(0, (.t 38)), (1, (.t 43)), (2, (.t 47))]), Iap 49 1 1 34 48, Im 4 49])
 .ret) (.seq (.rg [Im 51 5, Io 52 (.bi .gtr .u32 (.t 51) (.k (.int .u32 65535))), Im 53 52, Jm 54 53 5, Jt 55 53 (.bi .leq .u32 (.t 54) (.k (.int .u32 1114111))), Ipf 56 53 55, Im 50 56])
 (.cond (.t 50) (.seq (.rg [Im 57 0, Im 58 1, Io 59 (.shf .shr (.t 58) (.k (.int .u64 18))), Io 60 (.cvi .u8 (.t 59)), Io 61 (.bi .or .u8 (.k (.int .u8 240)) (.t 60)), Im 62 1, Io 63 (.shf .shr (.t 62) (.k (.int .u64 12))), Io 64 (.cvi .u8 (.t 63)), Io 65 (.bi .and .u8 (.t 64) (.k (.int .u8 63))), Io 66 (.bi .or .u8 (.k (.int .u8 128)) (.t 65)), Im 67 1, Io 68 (.shf .shr (.t 67) (.k (.int .u64 6))), Io 69 (.cvi .u8 (.t 68)), Io 70 (.bi .and .u8 (.t 69) (.k (.int .u8 63))), Io 71 (.bi .or .u8 (.k (.int .u8 128)) (.t 70)), Im 72 1, Io 73 (.cvi .u8 (.t 72)), Io 74 (.bi .and .u8 (.t 73) (.k (.int .u8 63))), Io 75 (.bi .or .u8 (.k (.int .u8 128)) (.t 74)), Io 76 (.bls 1 4 [.int .u8 0] [(0, (.t 61)), (1, (.t 66)), (2, (.t 71)), (3, (.t 75))]), Iap 77 1 1 57 76, Im 4 77])
 .ret) (.seq (.rg [Im 8 0, Io 9 (.bls 1 3 [.int .u8 0] [(0, (.k (.int .u8 239))), (1, (.k (.int .u8 191))), (2, (.k (.int .u8 189)))]), Iap 10 1 1 8 9, Im 4 10])
 .ret)))))))))⟩
theorem ck356:zw Tryz.prog 356 ir356=true:=by kernel_rfl
mutual
inductive Val where
 | mk (k n:Int) (s:List UInt8) (l:List Val) (m:List Mem)
inductive Mem where
 | mk (name:List UInt8) (v:Val)
end
mutual
def cV:Val→List AV
 | .mk k n s l m=>[.int .i64 k,.int .i64 n,.str s,.sl .no 5 (cVs l),.sl .no 6 (cMs m)]
def cVs:List Val→List (List AV)
 | []=>[]
 | v::r=>cV v::cVs r
def cM:Mem→List AV
 | .mk s v=>.str s::cV v
def cMs:List Mem→List (List AV)
 | []=>[]
 | x::r=>cM x::cMs r
end
theorem zfo:∀ l,cVs l=l.map cV
 | []=>rfl
 | v::r=>by rw[cVs,zfo r];rfl
theorem zdD:∀ l,cMs l=l.map cM
 | []=>rfl
 | v::r=>by rw[cMs,zdD r];rfl
theorem zai (l:List Val):(cVs l).length=l.length:=by rw[zfo];simp
theorem ZW (l:List Mem):(cMs l).length=l.length:=by rw[zdD];simp
theorem zbs {l a:List Val} {x:Val} {b:List Val} (h:l=a++x::b):(cVs l).getD a.length []=cV x:=by rw[zfo,Zz h]
theorem zaV {l a:List Mem} {x:Mem} {b:List Mem} (h:l=a++x::b):(cMs l).getD a.length []=cM x:=by rw[zdD,Zz h]
theorem Zb (k n:Int) (s:List UInt8) (l:List Val) (m:List Mem):cV (.mk k n s l m)=[.int .i64 k,.int .i64 n,.str s,.sl .no 5 (cVs l),.sl .no 6 (cMs m)]:=rfl
theorem zr (s:List UInt8) (v:Val):cM (.mk s v)=.str s::cV v:=rfl
theorem zav (v:Val):(cV v).map AV.strip1=cV v:=by cases v;rfl
theorem zfr (v:Mem):(cM v).map AV.strip1=cM v:=by cases v with|mk s v=>cases v;rfl
theorem zpO (l:List Val):(cVs l).map (·.map AV.strip1)=cVs l:=by
 rw[zfo,List.map_map];exact List.map_congr_left fun v _=>zav v
theorem zjt (l:List Mem):(cMs l).map (·.map AV.strip1)=cMs l:=by
 rw[zdD,List.map_map];exact List.map_congr_left fun v _=>zfr v
mutual
theorem Val.ind {P:Val→Prop} (h:∀ k n s l m,(∀ v∈l,P v)→(∀ s v,Mem.mk s v∈m→P v)→P (.mk k n s l m)):∀ v,P v
 | .mk k n s l m=>h k n s l m (Val.indL h l) (fun s v hm=>Val.indM h m s v hm)
theorem Val.indL {P:Val→Prop} (h:∀ k n s l m,(∀ v∈l,P v)→(∀ s v,Mem.mk s v∈m→P v)→P (.mk k n s l m)):∀ l:List Val,∀ v∈l,P v
 | [],_,hv=>by cases hv
 | x::r,v,hv=>(List.mem_cons.1 hv).elim (fun e=>e▸Val.ind h x) (Val.indL h r v)
theorem Val.ind1 {P:Val→Prop} (h:∀ k n s l m,(∀ v∈l,P v)→(∀ s v,Mem.mk s v∈m→P v)→P (.mk k n s l m)):∀ m:Mem,∀ s v,m=.mk s v→P v
 | .mk s v,s',v',e=>by cases e;exact Val.ind h v
theorem Val.indM {P:Val→Prop} (h:∀ k n s l m,(∀ v∈l,P v)→(∀ s v,Mem.mk s v∈m→P v)→P (.mk k n s l m)):∀ l:List Mem,∀ s v,Mem.mk s v∈l→P v
 | [],_,_,hv=>by cases hv
 | x::r,s,v,hv=>(List.mem_cons.1 hv).elim (fun e=>Val.ind1 h x s v e.symm) (Val.indM h r s v)
end
theorem zl (v:Val):(cV v).length=5:=by cases v;rfl
theorem zk (x:Mem):(cM x).length=6:=by cases x with|mk s v=>cases v;rfl
theorem zg (v:Val):(cV v).take 5=cV v:=by cases v;rfl
theorem zh (x:Mem):(cM x).take 6=cM x:=by cases x with|mk s v=>cases v;rfl
theorem ze (a b c d e:AV) (v:Val):splice [a,b,c,d,e] 0 (cV v)=cV v:=by cases v;rfl
theorem zd (a b c d e f:AV) (x:Mem):splice [a,b,c,d,e,f] 0 (cM x)=cM x:=by cases x with|mk s v=>cases v;rfl
mutual
def bV:Val→Nat
 | .mk _ _ s l m=>1+s.length+bVs l+bMs m
def bVs:List Val→Nat
 | []=>0
 | v::r=>bV v+bVs r
def bM:Mem→Nat
 | .mk s v=>s.length+bV v
def bMs:List Mem→Nat
 | []=>0
 | x::r=>bM x+bMs r
end
theorem zaG (v:Val):1≤bV v:=by cases v;simp only[bV];omega
theorem zu4 (v:Mem):1≤bM v:=by cases v with|mk s v=>have:=zaG v;simp only[bM];omega
theorem zb9:∀ l,l.length≤bVs l
 | []=>by simp
 | v::r=>by have:=zb9 r;have:=zaG v;simp only[bVs,Al2];omega
theorem YV:∀ l,l.length≤bMs l
 | []=>by simp
 | v::r=>by have:=YV r;have:=zu4 v;simp only[bMs,Al2];omega
theorem zgO (a:List Val) (x:Val) (b:List Val):bVs (a++x::b)=bVs a+bV x+bVs b:=by
 induction a with
 | nil=>simp[bVs]
 | cons y a ih=>simp only[Al6,bVs,ih];omega
theorem zcg (a:List Mem) (x:Mem) (b:List Mem):bMs (a++x::b)=bMs a+bM x+bMs b:=by
 induction a with
 | nil=>simp[bMs]
 | cons y a ih=>simp only[Al6,bMs,ih];omega
abbrev Lim:Nat:=1099511627776
noncomputable def eqd {α:Type} (a b:α):Bool:=@decide (a=b) (Classical.propDecidable _)
theorem yb {α:Type} {a b:α} (h:a=b):eqd a b=true:=by simp[eqd,h]
theorem zn {α:Type} {a b:α} (h:a≠b):eqd a b=false:=by simp[eqd,h]
def cT (l:List (List UInt8)):List (List AV):=l.map fun k=>[.str k]
theorem zax (l:List (List UInt8)):(cT l).length=l.length:=by simp[cT]
theorem zvr {l a:List (List UInt8)} {x:List UInt8} {b:List (List UInt8)} (h:l=a++x::b):(cT l).getD a.length []=[.str x]:=Zz h
theorem zaS {α:Type} {a b done rest:List α} {x:α} (h:a=done++x::rest) (hl:a.length=b.length) (hp:b.take done.length=done):∃ y r,b=done++y::r:=by
 have h1:done.length<b.length:=by rw[← hl,h];simp
 refine⟨b[done.length],b.drop (done.length+1),?_⟩
 conv=>lhs;rw[← List.take_append_drop done.length b,hp,List.drop_eq_getElem_cons h1]
theorem YF {α:Type} {b done r:List α} {y:α} (h:b=done++y::r):b.take (done++[y]).length=done++[y]:=by
 subst h
 have e:done++y::r=(done++[y])++r:=by simp
 rw[e,List.take_left'];rfl
theorem zaU {α:Type} {a b:List α} (hl:a.length=b.length) (hp:b.take a.length=a):a=b:=by
 rw[hl,List.take_length] at hp;exact hp.symm
theorem zcw {α:Type} {a b done rest r:List α} {x y:α} (h:a=done++x::rest) (h':b=done++y::r) (hxy:x≠y):a≠b:=fun e=>by
 rw[h,h'] at e
 exact hxy (List.cons.inj (List.append_cancel_left e)).1
mutual
def zN:Val→Int
 | .mk k _ _ l m=>if k=6 then yW l 0+1 else if k=7 then yV m 0+1 else 0
def yW:List Val→Int→Int
 | [],n=>n
 | v::r,n=>yW r (mm2 true n (zN v))
def yZ:Mem→Int
 | .mk _ v=>zN v
def yV:List Mem→Int→Int
 | [],n=>n
 | x::r,n=>yV r (mm2 true n (yZ x))
end
theorem zkW (a b:Int):a≤mm2 true a b:=by simp only[mm2,if_true];split<;>omega
mutual
theorem zfW:∀ v,0≤zN v∧zN v≤bV v
 | .mk k n s l m=>by
  have h1:=zcx l 0
  have h2:=zcb m 0
  simp only[zN,bV]
  split
  ·omega
  ·split<;>omega
theorem zcx:∀ l (n:Int),n≤yW l n∧(yW l n≤n∨yW l n≤bVs l)
 | [],n=>by simp[yW,bVs]
 | v::r,n=>by
  have h1:=zfW v
  have h2:=zcx r (mm2 true n (zN v))
  have h3:=zkW n (zN v)
  have h4:mm2 true n (zN v)=n∨mm2 true n (zN v)=zN v:=by simp only[mm2,if_true];split<;>simp
  simp only[yW,bVs]
  omega
theorem zpX:∀ x,0≤yZ x∧yZ x≤bM x
 | .mk s v=>by have:=zfW v;simp only[yZ,bM];omega
theorem zcb:∀ l (n:Int),n≤yV l n∧(yV l n≤n∨yV l n≤bMs l)
 | [],n=>by simp[yV,bMs]
 | v::r,n=>by
  have h1:=zpX v
  have h2:=zcb r (mm2 true n (yZ v))
  have h3:=zkW n (yZ v)
  have h4:mm2 true n (yZ v)=n∨mm2 true n (yZ v)=yZ v:=by simp only[mm2,if_true];split<;>simp
  simp only[yV,bMs]
  omega
end
theorem zkQ:∀ v,bV v≤Lim→zu Tryz.prog 116 [.agg (cV v)] (.int .i64 (zN v)):=by
 refine Val.ind fun k n s l m ihl ihm hb=>?_
 refine zu.go ir116 ck116 (Al4 _) fun KP Q hQ=>?_
 have hl:=zai l
 have hm:=ZW m
 have hll:=zb9 l
 have hml:=YV m
 have hb':1+s.length+bVs l+bMs m≤Lim:=hb
 simp only[Lim] at hb'
 have d1:=zcx l 0
 have d2:=zcb m 0
 by_cases k6:k=6
 ·subst k6
  simp(disch:=first|omega|assumption) only[ir116,Zb,hl,go_sem]
  refine zG l 15 (fun n:Int=>[(3,.int .i64 n)]) (fun done rest n H=>yW rest n=yW l 0) 0 (by simp(disch:=first|omega|assumption) only[go_sem]) rfl ?_ ?_
  ·rintro n H J hn hlt
   simp only[yW] at hn
   simp(disch:=first|omega|assumption) only[hl,hlt,wrap64,hn,go_sem]
   exact hQ _ _ _ _ nofun rfl (by simp[zc,zf,AV.strip,AV.strip1,zN])
  ·rintro done x rest n H J hd hlt _ hn hJ
   have hg:=zbs hd
   have hbm:=zgO done x rest
   rw[← hd] at hbm
   simp only[yW] at hn
   simp(disch:=first|omega|assumption) only[zl,zg,ze,zk,zh,zd,zr,hl,hlt,hg,go_sem]
   refine zm fun b hb=>?_
   simp(disch:=first|omega|assumption) only[zl,zg,ze,zk,zh,zd,zr,go_sem]
   refine zb (ihl x (by rw[hd];simp) (by simp only[Lim];omega)) ?_
   simp(disch:=first|omega|assumption) only[wrap64,go_sem]
   exact goJ (hJ _ _ hn) (by simp(disch:=first|omega|assumption) only[go_sem])
 by_cases k7:k=7
 ·subst k7
  simp(disch:=first|omega|assumption) only[ir116,Zb,hm,go_sem]
  refine zG m 29 (fun n:Int=>[(3,.int .i64 n)]) (fun done rest n H=>yV rest n=yV m 0) 0 (by simp(disch:=first|omega|assumption) only[go_sem]) rfl ?_ ?_
  ·rintro n H J hn hlt
   simp only[yV] at hn
   simp(disch:=first|omega|assumption) only[hm,hlt,wrap64,hn,go_sem]
   exact hQ _ _ _ _ nofun rfl (by simp[zc,zf,AV.strip,AV.strip1,zN])
  ·rintro done x rest n H J hd hlt _ hn hJ
   have hg:=zaV hd
   have hbm:=zcg done x rest
   rw[← hd] at hbm
   cases x with
   | mk t v =>
   simp only[yV,yZ,bM] at hn hbm
   simp(disch:=first|omega|assumption) only[zl,zg,ze,zk,zh,zd,zr,hm,hlt,hg,go_sem]
   refine zm fun b hb=>?_
   simp(disch:=first|omega|assumption) only[zl,zg,ze,zk,zh,zd,zr,go_sem]
   refine zb (ihm t v (by rw[hd];simp) (by simp only[Lim];omega)) ?_
   simp(disch:=first|omega|assumption) only[wrap64,go_sem]
   exact goJ (hJ _ _ hn) (by simp(disch:=first|omega|assumption) only[go_sem])
 ·simp(disch:=first|omega|assumption) only[ir116,Zb,k6,k7,go_sem]
  exact hQ _ _ _ _ nofun rfl (by simp[zc,zf,AV.strip,AV.strip1,zN,k6,k7])
def zV:Val:=.mk 0 0 [] [] []
theorem ztB:cV zV=[.int .i64 0,.int .i64 0,.str [],.sl .no 5 [],.sl .no 6 []]:=rfl
theorem zws (n:Int):zu Tryz.prog 177 [.int .i64 n] (.agg (cV (.mk 2 n [] [] []))):=by
 refine zu.go ir177 ck177 (Al4 _) fun KP Q hQ=>?_
 simp(disch:=first|omega|assumption) only[ir177,go_sem]
 refine zm fun b hb=>?_
 simp(disch:=first|omega|assumption) only[go_sem]
 exact hQ _ _ _ [.agg [.int .i64 2,.int .i64 n,.str [],.sl .nil 5 [],.sl .nil 6 []]] nofun (by simp(disch:=first|omega|assumption) only[ir177,zP,yR,go_sem]) rfl
theorem zwg (t:List UInt8):zu Tryz.prog 178 [.str t] (.agg (cV (.mk 4 0 t [] []))):=by
 refine zu.go ir178 ck178 (Al4 _) fun KP Q hQ=>?_
 simp(disch:=first|omega|assumption) only[ir178,go_sem]
 refine zm fun b hb=>?_
 simp(disch:=first|omega|assumption) only[go_sem]
 exact hQ _ _ _ [.agg [.int .i64 4,.int .i64 0,.str t,.sl .nil 5 [],.sl .nil 6 []]] nofun (by simp(disch:=first|omega|assumption) only[ir178,zP,yR,go_sem]) rfl
structure Tok where
 k:Int
 s:List UInt8
def cK (t:Tok):List AV:=[.int .i64 t.k,.str t.s]
def cKs (l:List Tok):List (List AV):=l.map cK
theorem zm9 (a b:List Tok):cKs (a++b)=cKs a++cKs b:=by simp[cKs]
theorem yM (l:List Tok):(cKs l).length=l.length:=by simp[cKs]
theorem za0 (l:List Tok):(cKs l).map (·.map AV.strip1)=cKs l:=by simp[cKs,cK,AV.strip1]
theorem zs8 {l a:List Tok} {x:Tok} {b:List Tok} (h:l=a++x::b):(cKs l).getD a.length []=[.int .i64 x.k,.str x.s]:=Zz h
theorem zsB (f:FuncId) (hf:Program.callable Tryz.prog f=true) (a b:List Val) (ha:a.length≤Lim) (hc:∀ x∈a,∀ y,zu Tryz.prog f [.agg (cV x),.agg (cV y)] (.bool (eqd x y))) :
  zu Tryz.prog 128 [.sl .no 5 (cVs a),.sl .no 5 (cVs b),.clo f [] []] (.bool (eqd a b)):=by
 refine zu.go ir128 ck128 (Al4 _) fun KP Q hQ=>?_
 have h1:=zai a
 have h2:=zai b
 simp only[Lim] at ha
 by_cases hl:a.length=b.length
 case neg =>
  have hl':¬ ((a.length:Int)=b.length):=by omega
  have hne:a≠b:=fun e=>hl (by rw[e])
  simp(disch:=first|omega|assumption) only[ir128,h1,h2,hl',go_sem]
  exact hQ _ _ _ _ nofun rfl (by simp[zc,zf,AV.strip,AV.strip1,zn hne])
 have hl':((a.length:Int)=b.length)=True:=eq_true (by omega)
 simp(disch:=first|omega|assumption) only[ir128,h1,h2,hl',go_sem]
 refine zG a 17 (fun _:Unit=>[]) (fun done rest n H=>b.take done.length=done) () (by simp(disch:=first|omega|assumption) only[go_sem]) rfl ?_ ?_
 ·rintro n H J hp hlt
  simp(disch:=first|omega|assumption) only[h1,hlt,go_sem]
  exact hQ _ _ _ _ nofun rfl (by simp[zc,zf,AV.strip,AV.strip1,yb (zaU hl hp)])
 ·rintro done x rest n H J hd hlt _ hp hJ
  obtain⟨y,r,hb⟩:=zaS hd hl hp
  have g1:=zbs hd
  have g2:=zbs hb
  have hlt2:(done.length:Int)<b.length:=by omega
  simp(disch:=first|omega|assumption) only[zl,zg,ze,zk,zh,zd,zr,h1,h2,hlt,hlt2,g1,g2,go_sem]
  refine zm fun b1 hb1=>?_
  simp(disch:=first|omega|assumption) only[zl,zg,ze,zk,zh,zd,zr,h1,h2,hlt,hlt2,g1,g2,go_sem]
  refine zm fun b2 hb2=>?_
  have hne:=zl9 hb2
  simp(disch:=first|omega|assumption) only[zl,zg,ze,zk,zh,zd,zr,Ne.symm hne,hne,go_sem]
  refine⟨hf,zb (hc x (by rw[hd];simp) y) ?_⟩
  by_cases hxy:x=y
  ·simp(disch:=first|omega|assumption) only[yb hxy,go_sem]
   exact goJ (hJ () _ (by rw[hxy];exact YF hb)) (by simp(disch:=first|omega|assumption) only[wrap64,go_sem])
  ·simp(disch:=first|omega|assumption) only[zn hxy,go_sem]
   exact hQ _ _ _ _ nofun rfl (by simp[zc,zf,AV.strip,AV.strip1,zn (zcw hd hb hxy)])
theorem zsJ (f:FuncId) (hf:Program.callable Tryz.prog f=true) (a b:List Mem) (ha:a.length≤Lim) (hc:∀ x∈a,∀ y,zu Tryz.prog f [.agg (cM x),.agg (cM y)] (.bool (eqd x y))) :
  zu Tryz.prog 129 [.sl .no 6 (cMs a),.sl .no 6 (cMs b),.clo f [] []] (.bool (eqd a b)):=by
 refine zu.go ir129 ck129 (Al4 _) fun KP Q hQ=>?_
 have h1:=ZW a
 have h2:=ZW b
 simp only[Lim] at ha
 by_cases hl:a.length=b.length
 case neg =>
  have hl':¬ ((a.length:Int)=b.length):=by omega
  have hne:a≠b:=fun e=>hl (by rw[e])
  simp(disch:=first|omega|assumption) only[ir129,h1,h2,hl',go_sem]
  exact hQ _ _ _ _ nofun rfl (by simp[zc,zf,AV.strip,AV.strip1,zn hne])
 have hl':((a.length:Int)=b.length)=True:=eq_true (by omega)
 simp(disch:=first|omega|assumption) only[ir129,h1,h2,hl',go_sem]
 refine zG a 17 (fun _:Unit=>[]) (fun done rest n H=>b.take done.length=done) () (by simp(disch:=first|omega|assumption) only[go_sem]) rfl ?_ ?_
 ·rintro n H J hp hlt
  simp(disch:=first|omega|assumption) only[h1,hlt,go_sem]
  exact hQ _ _ _ _ nofun rfl (by simp[zc,zf,AV.strip,AV.strip1,yb (zaU hl hp)])
 ·rintro done x rest n H J hd hlt _ hp hJ
  obtain⟨y,r,hb⟩:=zaS hd hl hp
  have g1:=zaV hd
  have g2:=zaV hb
  have hlt2:(done.length:Int)<b.length:=by omega
  simp(disch:=first|omega|assumption) only[zl,zg,ze,zk,zh,zd,zr,h1,h2,hlt,hlt2,g1,g2,go_sem]
  refine zm fun b1 hb1=>?_
  simp(disch:=first|omega|assumption) only[zl,zg,ze,zk,zh,zd,zr,h1,h2,hlt,hlt2,g1,g2,go_sem]
  refine zm fun b2 hb2=>?_
  have hne:=zl9 hb2
  simp(disch:=first|omega|assumption) only[zl,zg,ze,zk,zh,zd,zr,Ne.symm hne,hne,go_sem]
  refine⟨hf,zb (hc x (by rw[hd];simp) y) ?_⟩
  by_cases hxy:x=y
  ·simp(disch:=first|omega|assumption) only[yb hxy,go_sem]
   exact goJ (hJ () _ (by rw[hxy];exact YF hb)) (by simp(disch:=first|omega|assumption) only[wrap64,go_sem])
  ·simp(disch:=first|omega|assumption) only[zn hxy,go_sem]
   exact hQ _ _ _ _ nofun rfl (by simp[zc,zf,AV.strip,AV.strip1,zn (zcw hd hb hxy)])
theorem zqA (s t:List UInt8) (v u:Val) (hc:zu Tryz.prog 59 [.agg (cV v),.agg (cV u)] (.bool (eqd v u))):zu Tryz.prog 130 [.agg (cM (.mk s v)),.agg (cM (.mk t u))] (.bool (eqd (Mem.mk s v) (Mem.mk t u))):=by
 refine zu.go ir130 ck130 (Al4 _) fun KP Q hQ=>?_
 by_cases h1:s=t
 ·simp(disch:=first|omega|assumption) only[zl,zg,ze,zk,zh,zd,zr,ir130,h1,go_sem]
  refine zb hc ?_
  simp(disch:=first|omega|assumption) only[go_sem]
  have:eqd (Mem.mk t v) (Mem.mk t u)=eqd v u:=by
   by_cases h:v=u
   ·rw[yb h,yb (by rw[h])]
   ·rw[zn h,zn (by simp[h])]
  exact hQ _ _ _ _ nofun rfl (by simp[zc,zf,AV.strip,AV.strip1,this,h1])
 ·simp(disch:=first|omega|assumption) only[zl,zg,ze,zk,zh,zd,zr,ir130,h1,go_sem]
  have:eqd (Mem.mk s v) (Mem.mk t u)=false:=zn (by simp[h1])
  exact hQ _ _ _ _ nofun rfl (by simp[zc,zf,AV.strip,AV.strip1,this])
theorem zv1:∀ v,bV v≤Lim→∀ u,zu Tryz.prog 59 [.agg (cV v),.agg (cV u)] (.bool (eqd v u)):=by
 refine Val.ind fun k n s l m ihl ihm hb u=>?_
 obtain⟨k',n',s',l',m'⟩:=u
 have hb':1+s.length+bVs l+bMs m≤Lim:=hb
 have hll:=zb9 l
 have hml:=YV m
 have il:∀ x∈l,∀ y,zu Tryz.prog 59 [.agg (cV x),.agg (cV y)] (.bool (eqd x y)):=fun x hx y=>by
  obtain⟨a,b,hd⟩:=List.append_of_mem hx
  have:=zgO a x b
  rw[← hd] at this
  exact ihl x hx (by omega) y
 have im:∀ x∈m,∀ y,zu Tryz.prog 130 [.agg (cM x),.agg (cM y)] (.bool (eqd x y)):=fun x hx y=>by
  obtain⟨a,b,hd⟩:=List.append_of_mem hx
  have:=zcg a x b
  rw[← hd] at this
  obtain⟨t,v⟩:=x
  obtain⟨t',v'⟩:=y
  simp only[bM] at this
  exact zqA t t' v v' (ihm t v hx (by omega) v')
 refine zu.go ir59 ck59 (Al4 _) fun KP Q hQ=>?_
 by_cases h1:k=k'
 case neg =>
  have hne:¬ (Val.mk k n s l m=Val.mk k' n' s' l' m'):=by simp[h1]
  simp(disch:=first|omega|assumption) only[ir59,Zb,h1,go_sem]
  exact hQ _ _ _ _ nofun rfl (by simp[zc,zf,AV.strip,AV.strip1,zn hne])
 by_cases h2:n=n'
 case neg =>
  have hne:¬ (Val.mk k n s l m=Val.mk k' n' s' l' m'):=by simp[h2]
  simp(disch:=first|omega|assumption) only[ir59,Zb,h1,h2,go_sem]
  exact hQ _ _ _ _ nofun rfl (by simp[zc,zf,AV.strip,AV.strip1,zn hne])
 by_cases h3:s=s'
 case neg =>
  have hne:¬ (Val.mk k n s l m=Val.mk k' n' s' l' m'):=by simp[h3]
  simp(disch:=first|omega|assumption) only[ir59,Zb,h1,h2,h3,go_sem]
  exact hQ _ _ _ _ nofun rfl (by simp[zc,zf,AV.strip,AV.strip1,zn hne])
 simp(disch:=first|omega|assumption) only[ir59,Zb,h1,h2,h3,go_sem]
 refine zb (zsB _ (by kernel_rfl) l l' (by omega) il) ?_
 by_cases h4:l=l'
 case neg =>
  have hne:¬ (Val.mk k n s l m=Val.mk k' n' s' l' m'):=by simp[h4]
  simp(disch:=first|omega|assumption) only[zn h4,go_sem]
  exact hQ _ _ _ _ nofun rfl (by simp[zc,zf,AV.strip,AV.strip1,zn hne])
 simp(disch:=first|omega|assumption) only[yb h4,go_sem]
 refine zb (zsJ _ (by kernel_rfl) m m' (by omega) im) ?_
 simp(disch:=first|omega|assumption) only[go_sem]
 have:eqd (Val.mk k n s l m) (Val.mk k' n' s' l' m')=eqd m m':=by
  by_cases h:m=m'
  ·rw[yb h,yb (by rw[h1,h2,h3,h4,h])]
  ·rw[zn h,zn (by simp[h])]
 exact hQ _ _ _ _ nofun rfl (by simp[zc,zf,AV.strip,AV.strip1,this])
end Go.Proofs.YticbbfbpeimkbaaGreatDoor
