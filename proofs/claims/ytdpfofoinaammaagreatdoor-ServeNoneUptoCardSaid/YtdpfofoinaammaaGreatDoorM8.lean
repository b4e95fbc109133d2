import Derived.Test.YtdpfofoinaammaaGreatDoorRows
import Derived.Test.YtdpfofoinaammaaGreatDoorM7
set_option maxRecDepth 100000
set_option linter.all false
namespace Go.Proofs.YtdpfofoinaammaaGreatDoor
open Go.Ab
def ir3:zf:=⟨50,2,[.t 4],.seq (.rg [zh 4 false])
 (.seq (.rg [Im 8 0,Im 9 1,Im 5 8,Im 6 9])
 (.seq (.seq (.rg [Im 10 5,Io 11 (.call 5 [(.t 10)]),Im 12 5,Io 13 (.call 6 [(.t 12)]),Io 14 (.bs .neq (.t 11) (.t 13))])
 (.cond (.t 14) (.seq (.rg [zh 4 false])
 .ret) .skip))
 (.seq (.rg [Im 15 0,Io 16 (.bi .geq .i64 (.t 15) (.k (.int .i64 0))),Im 17 16,Jm 18 17 0,Jt 19 17 (.bi .leq .i64 (.t 18) (.k (.int .i64 14))),zI 20 17 19,Im 21 20,Jm 22 21 1,Jt 23 21 (.bi .geq .i64 (.t 22) (.k (.int .i64 0))),zI 24 21 23,Im 25 24,Jm 26 25 1,Jt 27 25 (.bi .leq .i64 (.t 26) (.k (.int .i64 14))),zI 28 25 27,Im 7 28])
 (.seq (.rg [Im 29 7,zW 30 29,Im 31 30,Fm 32 31 5,Jf 33 31 (.call 5 [(.t 32)]),Fm 34 31 6,Jf 35 31 (.call 5 [(.t 34)]),Jf 36 31 (.bs .eql (.t 33) (.t 35)),Fm 37 31 0,Fm 38 31 1,Jf 39 31 (.bi .eql .i64 (.t 37) (.t 38)),Jf 40 31 (.bb false (.t 36) (.t 39)),ye 41 31 40,Im 42 41,Jm 43 42 5,Jt 44 42 (.call 5 [(.t 43)]),Jt 45 42 (.bs .neq (.t 44) (.k (.str []))),zI 46 42 45,Im 47 46,Jt 48 47 (.call 7 []),zI 49 47 48,Im 4 49])
 .ret))))⟩
theorem ck3:za Tryz.prog 3 ir3=true:=by kernel_rfl
def ir4:zf:=⟨42,1,[.t 2],.seq (.rg [zh 2 false])
 (.seq (.seq (.rg [Im 8 0,WW 9 8,YV 10 9 2000])
 (.cond (.t 10) (.seq (.rg [Io 11 (.call 7 []),Im 2 11])
 .ret) .skip))
 (.seq (.rg [Io 3 (.mv (.k (.nilp)))])
 (.seq (.rg [Im 13 3,Im 14 0,Io 15 (.call 8 [(.t 13),(.t 14)]),Im 12 15,zr 16 12 0,zr 17 12 1,zr 18 12 2,zr 19 12 3,Io 4 (.alloc [.sl .nil 5 [],.sl .nil 4 []]),Io 5 (.alloc [.int .i64 0,.str [],.sl .nil 10 [],.sl .nil 2 [],.sl .nil 7 []]),⟨none,none,.st 2 (.t 4) (.t 16),[]⟩,⟨none,none,.st 5 (.t 5) (.t 17),[]⟩,Im 6 18,Im 7 19])
 (.seq (.rg [Im 20 3,Im 21 0,Io 22 (.bld [.int .i64 0,.int .i64 0,.int .i64 0] []),Io 23 (.call 9 [(.t 20),(.t 21),(.t 22),(.k (.sl .nil 1 []))]),Io 24 (.bs .eql (.t 23) (.k (.str []))),Im 25 24,Jm 26 25 7,Jt 27 25 (.bs .eql (.t 26) (.k (.str []))),zI 28 25 27,Im 29 28,Jm 30 29 3,Jt 31 29 (.call 10 [(.t 30)]),Jt 32 29 (.len (.t 31)),Jm 33 29 3,Jt 34 29 (.call 11 [(.t 33)]),Jt 35 29 (.len (.t 34)),Jt 36 29 (.bi .add .i64 (.t 32) (.t 35)),Jt 37 29 (.bi .eql .i64 (.t 36) (.k (.int .i64 0))),zI 38 29 37,Im 39 38,Jt 40 39 (.call 7 []),zI 41 39 40,Im 2 41])
 .ret))))⟩
theorem ck4:za Tryz.prog 4 ir4=true:=by kernel_rfl
def ir5:zf:=⟨14,1,[.t 2],.seq (.rg [Io 2 (.mv (.k (.str [])))])
 (.seq (.rg [Io 4 (.bld [.str [],.str [],.str [],.str [],.str [],.str [],.str [],.str [],.str [],.str [],.str [],.str [],.str [],.str [],.str []] [(0,1,(.k (.str [111,107]))),(1,1,(.k (.str [97,114,103]))),(2,1,(.k (.str [102,111,114,109]))),(3,1,(.k (.str [115,105,122,101]))),(4,1,(.k (.str [100,101,101,112]))),(5,1,(.k (.str [116,119,105,99,101]))),(6,1,(.k (.str [110,111,110,101]))),(7,1,(.k (.str [116,121,112,101]))),(8,1,(.k (.str [114,97,110,103,101]))),(9,1,(.k (.str [110,117,108,108]))),(10,1,(.k (.str [98,114,111,107,101,110]))),(11,1,(.k (.str [112,97,110,105,99]))),(12,1,(.k (.str [99,97,110,99,101,108]))),(13,1,(.k (.str [114,117,108,101]))),(14,1,(.k (.str [115,116,97,116,101])))]),Io 3 (.alloc [.str [],.str [],.str [],.str [],.str [],.str [],.str [],.str [],.str [],.str [],.str [],.str [],.str [],.str [],.str []]),⟨none,none,.st 15 (.t 3) (.t 4),[]⟩])
 (.seq (.seq (.rg [Im 5 0,Io 6 (.bi .lss .i64 (.t 5) (.k (.int .i64 0))),Im 7 6,Fm 8 7 0,Jf 9 7 (.bi .geq .i64 (.t 8) (.k (.int .i64 15))),ye 10 7 9])
 (.cond (.t 10) (.seq (.rg [Io 2 (.mv (.k (.str [101,114,114,111,114])))])
 .ret) .skip))
 (.seq (.rg [Im 11 0,Io 12 (.iar 15 1 (.t 3) (.t 11)),Il 13 1 12,Im 2 13])
 .ret)))⟩
theorem ck5:za Tryz.prog 5 ir5=true:=by kernel_rfl
def ir6:zf:=⟨17,1,[.t 2],.seq (.rg [Io 2 (.mv (.k (.str [])))])
 (.seq (.rg [Io 4 (.bls 1 15 [.str []] [(0,(.k (.str [111,107]))),(1,(.k (.str [97,114,103]))),(2,(.k (.str [102,111,114,109]))),(3,(.k (.str [115,105,122,101]))),(4,(.k (.str [100,101,101,112]))),(5,(.k (.str [116,119,105,99,101]))),(6,(.k (.str [110,111,110,101]))),(7,(.k (.str [116,121,112,101]))),(8,(.k (.str [114,97,110,103,101]))),(9,(.k (.str [110,117,108,108]))),(10,(.k (.str [98,114,111,107,101,110]))),(11,(.k (.str [112,97,110,105,99]))),(12,(.k (.str [99,97,110,99,101,108]))),(13,(.k (.str [114,117,108,101]))),(14,(.k (.str [115,116,97,116,101])))]),Im 3 4])
 (.seq (.seq (.rg [Im 5 0,Io 6 (.bi .lss .i64 (.t 5) (.k (.int .i64 0))),Im 7 6,Fm 8 7 0,Fm 9 7 3,Jf 10 7 (.len (.t 9)),Jf 11 7 (.bi .geq .i64 (.t 8) (.t 10)),ye 12 7 11])
 (.cond (.t 12) (.seq (.rg [Io 2 (.mv (.k (.str [101,114,114,111,114])))])
 .ret) .skip))
 (.seq (.rg [Im 13 3,Im 14 0,zF 15 1 13 14,Il 16 1 15,Im 2 16])
 .ret)))⟩
theorem ck6:za Tryz.prog 6 ir6=true:=by kernel_rfl
def ir7:zf:=⟨27,0,[.t 0],.seq (.rg [zh 0 false])
 (.seq (.rg [Io 4 (.call 12 [(.k (.str [116,121,112,101,32,81,117,101,114,121,32,123,32,117,115,101,114,40,105,100,58,32,73,68,41,58,32,85,115,101,114,32,64,103,101,116,40,116,97,98,108,101,58,32,34,117,34,44,32,97,114,103,58,32,34,105,100,34,41,32,125,32,116,121,112,101,32,85,115,101,114,32,123,32,97,103,101,58,32,73,110,116,32,125])),(.k (.sl .nil 2 []))]),Im 3 4,zr 5 3 0,zr 6 3 1,Im 1 5,Im 2 6])
 (.seq (.seq (.rg [Im 7 2,Io 8 (.bi .neq .i64 (.t 7) (.k (.int .i64 0))),Im 9 8,Fm 10 9 1,Jf 11 9 (.isnil .p (.t 10)),ye 12 9 11])
 (.cond (.t 12) (.seq (.rg [zh 0 false])
 .ret) .skip))
 (.seq (.rg [Im 13 1,Io 14 (.bld [.int .i64 0,.int .i64 0,.int .i64 0] []),Io 15 (.call 9 [(.t 13),(.k (.str [123,34,113,117,101,114,121,34,58,34,123,95,95,116,121,112,101,110,97,109,101,125,34,125])),(.t 14),(.k (.sl .nil 1 []))]),Io 16 (.bs .eql (.t 15) (.k (.str [123,34,100,97,116,97,34,58,123,34,95,95,116,121,112,101,110,97,109,101,34,58,34,81,117,101,114,121,34,125,125]))),Im 17 16,Jm 18 17 1,Jt 19 17 (.bld [.int .i64 0,.int .i64 0,.int .i64 0] []),Jt 20 17 (.call 9 [(.t 18),(.k (.str [123])),(.t 19),(.k (.sl .nil 1 []))]),Jt 21 17 (.bs .eql (.t 20) (.k (.str [123,34,101,114,114,111,114,115,34,58,91,123,34,109,101,115,115,97,103,101,34,58,34,102,111,114,109,34,125,93,125]))),zI 22 17 21,Im 23 22,Jt 24 23 (.call 5 [(.k (.int .i64 9))]),Jt 25 23 (.bs .eql (.t 24) (.k (.str [110,117,108,108]))),zI 26 23 25,Im 0 26])
 .ret)))⟩
theorem ck7:za Tryz.prog 7 ir7=true:=by kernel_rfl
def ir8:zf:=⟨31,2,[.c 4 2 true,.c 5 5 true,.t 6,.t 7],.seq (.rg [Io 4 (.alloc [.sl .nil 5 [],.sl .nil 4 []]),Io 5 (.alloc [.int .i64 0,.str [],.sl .nil 10 [],.sl .nil 2 [],.sl .nil 7 []]),Io 6 (.mv (.k (.sl .nil 6 []))),Io 7 (.mv (.k (.str [])))])
 (.seq (.seq (.rg [Im 9 0,Io 10 (.isnil .p (.t 9)),Im 11 10,Fm 12 11 0,Jf 13 11 (.nilchk (.t 12)),Fa 14 11 3 13,Fl 15 11 1 14,Jf 16 11 (.isnil .p (.t 15)),ye 17 11 16])
 (.cond (.t 17) (.seq (.rg [Io 18 (.bld [.sl .nil 5 [],.sl .nil 4 []] []),Io 19 (.bld [.int .i64 0,.str [],.sl .nil 10 [],.sl .nil 2 [],.sl .nil 7 []] []),⟨none,none,.st 2 (.t 4) (.t 18),[]⟩,⟨none,none,.st 5 (.t 5) (.t 19),[]⟩,Io 6 (.mv (.k (.sl .nil 6 []))),Io 7 (.mv (.k (.str [])))])
 .ret) .skip))
 (.seq (.rg [Im 20 0,Im 21 1,Io 22 (.call 13 [(.t 20),(.t 21)]),Io 8 (.alloc [.sl .nil 5 [],.sl .nil 4 [],.int .i64 0,.str [],.sl .nil 10 [],.sl .nil 2 [],.sl .nil 7 [],.sl .nil 6 [],.str []]),⟨none,none,.st 9 (.t 8) (.t 22),[]⟩])
 (.seq (.reg [0,1,2,3,4,5,6,7,8,9,10,11] [If 23 0 8,zc 24 2 23,If 25 2 8,zc 26 5 25,If 27 7 8,Il 28 1 27,If 29 8 8,Il 30 1 29,⟨none,none,.st 2 (.t 4) (.t 24),[3,5,7]⟩,⟨none,none,.st 5 (.t 5) (.t 26),[5,7]⟩,Im 6 28,Im 7 30])
 .ret)))⟩
theorem ck8:za Tryz.prog 8 ir8=true:=by kernel_rfl
def ir9:zf:=⟨99,4,[.t 8],.seq (.rg [Io 6 (.box (.t 2)),Io 8 (.mv (.k (.str [])))])
 (.seq (.seq (.rg [Im 17 0,Io 18 (.isnil .p (.t 17)),Im 19 18,Fm 20 19 0,Jf 21 19 (.nilchk (.t 20)),Fa 22 19 3 21,Fl 23 19 1 22,Jf 24 19 (.isnil .p (.t 23)),ye 25 19 24])
 (.cond (.t 25) (.seq (.rg [Io 8 (.mv (.k (.str [])))])
 .ret) .skip))
 (.seq (.rg [Im 26 0,Im 27 1,Io 28 (.call 13 [(.t 26),(.t 27)]),Io 9 (.alloc [.sl .nil 5 [],.sl .nil 4 [],.int .i64 0,.str [],.sl .nil 10 [],.sl .nil 2 [],.sl .nil 7 [],.sl .nil 6 [],.str []]),⟨none,none,.st 9 (.t 9) (.t 28),[]⟩])
 (.seq (.seq (.rg [If 29 8 9,Il 30 1 29,Io 31 (.bs .neq (.t 30) (.k (.str [])))])
 (.cond (.t 31) (.seq (.rg [If 32 8 9,Il 33 1 32,Io 34 (.call 15 [(.t 33)]),Io 35 (.call 14 [(.k (.str [109,101,115,115,97,103,101])),(.t 34)]),Io 36 (.bls 5 1 [.int .i64 0,.int .i64 0,.str [],.sl .nil 5 [],.sl .nil 6 []] [(0,(.t 35))]),Io 37 (.bld [.int .i64 0,.int .i64 0,.str [],.sl .nil 5 [],.sl .nil 6 []] [(0,1,(.k (.int .i64 6))),(3,1,(.t 36))]),Io 10 (.alloc [.int .i64 0,.int .i64 0,.str [],.sl .nil 5 [],.sl .nil 6 []]),⟨none,none,.st 5 (.t 10) (.t 37),[]⟩])
 (.seq (.rg [zc 39 5 10,Io 40 (.call 14 [(.k (.str [101,114,114,111,114,115])),(.t 39)]),Io 41 (.call 16 [(.t 40)]),Im 38 41,zr 42 38 0,zr 43 38 1,Im 11 42,Im 12 43])
 (.seq (.rg [Im 44 11,Im 8 44])
 .ret))) .skip))
 (.seq (.rg [If 45 0 6,Il 46 1 45,Io 47 (.mm true (.t 46) [(.k (.int .i64 1))]),Io 48 (.mm false (.t 47) [(.k (.int .i64 64))]),If 49 0 6,⟨none,none,.st 1 (.t 49) (.t 48),[]⟩])
 (.seq (.rg [If 50 1 6,Il 51 1 50,Io 52 (.mm true (.t 51) [(.k (.int .i64 1))]),Io 53 (.mm false (.t 52) [(.k (.int .i64 16))]),If 54 1 6,⟨none,none,.st 1 (.t 54) (.t 53),[]⟩])
 (.seq (.rg [If 55 2 6,Il 56 1 55,Io 57 (.mm true (.t 56) [(.k (.int .i64 0))]),If 58 2 6,⟨none,none,.st 1 (.t 58) (.t 57),[]⟩])
 (.seq (.reg [0,1,2,3,4,5,6,7,8,9,10,11,12,13,14,16,15,17,18,19] [Im 59 0,zk 60 59,If 61 0 60,zc 62 3 61,If 63 0 9,zc 64 2 63,If 65 2 9,zc 66 5 65,If 67 7 9,Il 68 1 67,Im 69 0,zk 70 69,If 71 3 70,Il 72 1 71,zc 73 3 6,Im 75 3,Io 74 (.call 18 [(.t 62),(.t 64),(.t 66),(.t 68),(.t 72),(.t 73)]),Io 76 (.call 17 [(.t 74),(.t 75)]),Io 13 (.alloc [.int .i64 0,.int .i64 0,.str [],.sl .nil 5 [],.sl .nil 6 [],.sl .nil 2 [],.bool false,.int .i64 0]),⟨none,none,.st 8 (.t 13) (.t 76),[]⟩])
 (.seq (.rg [If 77 0 13,zc 78 5 77,Io 79 (.call 14 [(.k (.str [100,97,116,97])),(.t 78)]),Io 14 (.alloc [.int .i64 0,.int .i64 0,.str [],.sl .nil 5 [],.sl .nil 6 []]),⟨none,none,.st 5 (.t 14) (.t 79),[]⟩])
 (.seq (.seq (.rg [If 80 5 13,Il 81 1 80,zD 82 81,YV 83 82 0])
 (.cond (.t 83) (.reg [0,1,2,3,4,5,6,7,8,9] [If 84 4 14,Il 85 1 84,If 86 5 13,Il 87 1 86,⟨some 88,none,.call 19 [(.t 87)],[1]⟩,Io 89 (.bld [.str [],.int .i64 0,.int .i64 0,.str [],.sl .nil 5 [],.sl .nil 6 []] [(0,1,(.k (.str [101,114,114,111,114,115]))),(1,5,(.t 88))]),Io 90 (.bls 6 1 [.str [],.int .i64 0,.int .i64 0,.str [],.sl .nil 5 [],.sl .nil 6 []] [(0,(.t 89))]),z1 91 6 96 85 90,If 92 4 14,⟨none,none,.st 1 (.t 92) (.t 91),[]⟩]) .skip))
 (.seq (.rg [zc 94 5 14,Io 95 (.call 16 [(.t 94)]),Im 93 95,zr 96 93 0,zr 97 93 1,Im 15 96,Im 16 97])
 (.seq (.rg [Im 98 15,Im 8 98])
 .ret)))))))))))⟩
theorem ck9:za Tryz.prog 9 ir9=true:=by kernel_rfl
def ir10:zf:=⟨10,1,[.t 2],.seq (.rg [Io 2 (.mv (.k (.sl .nil 2 [])))])
 (.seq (.seq (.rg [Im 3 0,Io 4 (.isnil .p (.t 3))])
 (.cond (.t 4) (.seq (.rg [Io 2 (.mv (.k (.sl .nil 2 [])))])
 .ret) .skip))
 (.seq (.rg [Im 5 0,zk 6 5,If 7 3 6,Il 8 1 7,Io 9 (.call 20 [(.t 8)]),Im 2 9])
 .ret))⟩
theorem ck10:za Tryz.prog 10 ir10=true:=by kernel_rfl
def ir11:zf:=⟨10,1,[.t 2],.seq (.rg [Io 2 (.mv (.k (.sl .nil 7 [])))])
 (.seq (.seq (.rg [Im 3 0,Io 4 (.isnil .p (.t 3))])
 (.cond (.t 4) (.seq (.rg [Io 2 (.mv (.k (.sl .nil 7 [])))])
 .ret) .skip))
 (.seq (.rg [Im 5 0,zk 6 5,If 7 3 6,Il 8 1 7,Io 9 (.call 21 [(.t 8)]),Im 2 9])
 .ret))⟩
theorem ck11:za Tryz.prog 11 ir11=true:=by kernel_rfl
def ir12:zf:=⟨30,2,[.t 4,.t 5],.seq (.rg [Io 4 (.mv (.k (.nilp))),zj 5 0])
 (.seq (.rg [Im 9 0,Io 10 (.call 22 [(.t 9)]),Im 8 10,zr 11 8 0,zr 12 8 1,Io 6 (.alloc [.sl .nil 6 [],.str [],.str []]),⟨none,none,.st 3 (.t 6) (.t 11),[]⟩,Im 7 12])
 (.seq (.block 0 (.seq (.rg [Im 14 7,Io 15 (.bi .neq .i64 (.t 14) (.k (.int .i64 0))),Im 13 15])
 (.cond (.t 13) (.seq (.rg [Im 16 7,Io 4 (.mv (.k (.nilp))),Im 5 16])
 .ret) (.seq (.rg [zc 18 3 6,Io 19 (.call 23 [(.t 18)]),zW 20 19,Im 17 20])
 (.cond (.t 17) (.seq (.rg [Io 4 (.mv (.k (.nilp))),zj 5 13])
 .ret) (.seq (.rg [Im 22 1,Io 23 (.call 24 [(.t 22)]),zW 24 23,Im 21 24])
 (.cond (.t 21) (.seq (.rg [Io 4 (.mv (.k (.nilp))),zj 5 1])
 .ret) .skip)))))))
 (.seq (.reg [0,1,2,3,4,5,6] [zc 25 3 6,Im 26 1,⟨some 27,none,.call 25 [(.t 26)],[0]⟩,Io 28 (.bld [.sl .nil 6 [],.str [],.str [],.nilp] [(0,3,(.t 25)),(3,1,(.t 27))]),Io 29 (.box (.t 28)),Im 4 29,zj 5 0])
 .ret)))⟩
theorem ck12:za Tryz.prog 12 ir12=true:=by kernel_rfl
def ir13:zf:=⟨82,2,[.c 4 9 true],.seq (.rg [Io 4 (.alloc [.sl .nil 5 [],.sl .nil 4 [],.int .i64 0,.str [],.sl .nil 10 [],.sl .nil 2 [],.sl .nil 7 [],.sl .nil 6 [],.str []])])
 (.scope (.seq (.rg [Io 5 (.alloc [.sl .nil 5 [],.sl .nil 4 [],.int .i64 0,.str [],.sl .nil 10 [],.sl .nil 2 [],.sl .nil 7 [],.sl .nil 6 [],.str []])])
 (.seq .skip
 (.seq (.block 0 (.loop [0,1,4,5] (.block 1 (.seq (.rg [Im 10 1,Io 11 (.call 26 [(.t 10)]),Im 9 11,zr 12 9 0,zr 13 9 1,Io 6 (.alloc [.str [],.str [],.sl .nil 6 []]),⟨none,none,.st 3 (.t 6) (.t 12),[]⟩,Im 7 13])
 (.seq (.seq (.rg [Im 14 7,Io 15 (.call 5 [(.t 14)]),If 16 8 5,⟨none,none,.st 1 (.t 16) (.t 15),[]⟩])
 (.seq (.rg [Im 17 7,Io 18 (.bi .neq .i64 (.t 17) (.k (.int .i64 0)))])
 (.cond (.t 18) (.exit 0) .skip)))
 (.seq (.rg [If 20 0 6,Il 21 1 20,Io 22 (.call 27 [(.t 21)]),Im 19 22,zr 23 19 0,zr 24 19 1,If 25 0 5,⟨none,none,.st 2 (.t 25) (.t 23),[]⟩,Im 7 24])
 (.seq (.seq (.rg [Im 26 7,Io 27 (.call 5 [(.t 26)]),If 28 8 5,⟨none,none,.st 1 (.t 28) (.t 27),[]⟩])
 (.seq (.rg [Im 29 7,Io 30 (.bi .neq .i64 (.t 29) (.k (.int .i64 0)))])
 (.cond (.t 30) (.exit 0) .skip)))
 (.seq (.seq (.reg [0,1,2,3,4,5,6,7] [Im 31 0,zk 32 31,If 33 0 32,zc 34 3 33,If 35 0 5,zc 36 2 35,Io 37 (.call 28 [(.t 34),(.t 36)]),Im 8 37])
 (.seq (.rg [Im 38 8,Io 39 (.bi .neq .i64 (.t 38) (.k (.int .i64 0)))])
 (.cond (.t 39) (.seq (.rg [Im 40 8,Io 41 (.call 29 [(.t 40)]),Io 42 (.bs .add (.k (.str [114,117,108,101,32])) (.t 41)),If 43 8 5,⟨none,none,.st 1 (.t 43) (.t 42),[]⟩])
 (.exit 0)) .skip)))
 (.seq (.rg [If 45 0 5,zc 46 2 45,If 47 1 6,Il 48 1 47,Io 49 (.call 30 [(.t 46),(.t 48)]),Im 44 49,zr 50 44 0,zr 51 44 1,If 52 2 5,⟨none,none,.st 5 (.t 52) (.t 50),[]⟩,Im 7 51])
 (.seq (.seq (.rg [Im 53 7,Io 54 (.call 5 [(.t 53)]),If 55 8 5,⟨none,none,.st 1 (.t 55) (.t 54),[]⟩])
 (.seq (.rg [Im 56 7,Io 57 (.bi .neq .i64 (.t 56) (.k (.int .i64 0)))])
 (.cond (.t 57) (.exit 0) .skip)))
 (.seq (.reg [0,1,2,3,4,5,6,7,8,9,10,11,12,13,14,15] [Im 59 0,zk 60 59,If 61 0 60,zc 62 3 61,If 63 2 5,If 64 2 63,Il 65 1 64,If 66 2 6,Il 67 1 66,Io 68 (.call 31 [(.t 62),(.t 65),(.t 67)]),Im 58 68,zr 69 58 0,zr 70 58 1,If 71 7 5,⟨none,none,.st 1 (.t 71) (.t 69),[]⟩,Im 7 70])
 (.seq (.seq (.rg [Im 72 7,Io 73 (.call 5 [(.t 72)]),If 74 8 5,⟨none,none,.st 1 (.t 74) (.t 73),[]⟩])
 (.seq (.rg [Im 75 7,Io 76 (.bi .neq .i64 (.t 75) (.k (.int .i64 0)))])
 (.cond (.t 76) (.exit 0) .skip)))
 (.seq (.rg [If 77 8 5,⟨none,none,.st 1 (.t 77) (.k (.str [])),[]⟩])
 (.seq (.rg [zc 78 9 5,⟨none,none,.st 9 (.t 4) (.t 78),[]⟩])
 .ret))))))))))))))
 (.seq (.rg [If 79 8 5,Il 80 1 79,Io 81 (.bld [.sl .nil 5 [],.sl .nil 4 [],.int .i64 0,.str [],.sl .nil 10 [],.sl .nil 2 [],.sl .nil 7 [],.sl .nil 6 [],.str []] [(8,1,(.t 80))]),⟨none,none,.st 9 (.t 4) (.t 81),[]⟩])
 .ret)))))⟩
theorem ck13:za Tryz.prog 13 ir13=true:=by kernel_rfl
def ir14:zf:=⟨10,2,[.c 4 5 true],.seq (.rg [zp 3 1,Io 4 (.alloc [.int .i64 0,.int .i64 0,.str [],.sl .nil 5 [],.sl .nil 6 []])])
 (.seq (.rg [Im 5 0,zc 6 5 3,Io 7 (.bld [.str [],.int .i64 0,.int .i64 0,.str [],.sl .nil 5 [],.sl .nil 6 []] [(0,1,(.t 5)),(1,5,(.t 6))]),Io 8 (.bls 6 1 [.str [],.int .i64 0,.int .i64 0,.str [],.sl .nil 5 [],.sl .nil 6 []] [(0,(.t 7))]),Io 9 (.bld [.int .i64 0,.int .i64 0,.str [],.sl .nil 5 [],.sl .nil 6 []] [(0,1,(.k (.int .i64 7))),(4,1,(.t 8))]),⟨none,none,.st 5 (.t 4) (.t 9),[]⟩])
 .ret)⟩
theorem ck14:za Tryz.prog 14 ir14=true:=by kernel_rfl
def ir16:zf:=⟨10,1,[.t 2,.t 3],.seq (.rg [zp 1 0,Io 2 (.mv (.k (.str []))),zh 3 false])
 (.seq (.seq (.rg [zc 4 5 1,Io 5 (.call 32 [(.t 4)]),zW 6 5])
 (.cond (.t 6) (.seq (.rg [Io 2 (.mv (.k (.str []))),zh 3 false])
 .ret) .skip))
 (.seq (.rg [zc 7 5 1,Io 8 (.call 33 [(.k (.sl .nil 1 [])),(.t 7)]),Io 9 (.cvb2s (.t 8)),Im 2 9,zh 3 true])
 .ret))⟩
theorem ck16:za Tryz.prog 16 ir16=true:=by kernel_rfl
def ir17:zf:=⟨35,2,[.c 4 8 true],.seq (.rg [Io 4 (.alloc [.int .i64 0,.int .i64 0,.str [],.sl .nil 5 [],.sl .nil 6 [],.sl .nil 2 [],.bool false,.int .i64 0])])
 (.seq (.seq (.rg [Im 9 0,Io 10 (.call 34 [(.t 9)]),Im 5 10])
 (.block 0 (.loop [0,1,4,5] (.seq (.seq (.rg [Im 11 5,zD 12 11,YV 13 12 0])
 (.cond (.t 13) .skip (.exit 0)))
 (.seq (.block 1 (.seq (.rg [Io 6 (.mv (.k (.int .i64 (-1))))])
 (.seq (.seq (.rg [Im 16 1,zD 17 16,YV 18 17 0])
 (.cond (.t 18) (.reg [0,1,2,3,4,5,6] [Im 19 1,Io 20 (.ia 1 (.t 19) (.k (.int .i64 0))),Il 21 1 20,Im 22 1,Io 23 (.sll 1 (.t 22) (some (.k (.int .i64 1))) none none),Im 6 21,Im 1 23]) .skip))
 (.rg [Im 24 0,Im 25 6,Im 26 5,Io 27 (.call 36 [(.t 25),(.t 26)]),Io 28 (.call 35 [(.t 24),(.t 27)])]))))
 (.rg [Im 14 0,Io 15 (.call 34 [(.t 14)]),Im 5 15]))))))
 (.seq (.rg [Im 30 0,Io 31 (.call 37 [(.t 30)]),Im 29 31,zr 32 29 0,zr 33 29 1,Io 7 (.alloc [.int .i64 0,.int .i64 0,.str [],.sl .nil 5 [],.sl .nil 6 [],.sl .nil 2 [],.bool false,.int .i64 0]),⟨none,none,.st 8 (.t 7) (.t 32),[]⟩,Im 8 33])
 (.seq (.rg [zc 34 8 7,⟨none,none,.st 8 (.t 4) (.t 34),[]⟩])
 .ret)))⟩
theorem ck17:za Tryz.prog 17 ir17=true:=by kernel_rfl
def ir18:zf:=⟨54,6,[.t 12],.seq (.rg [zp 6 0,zp 7 1,zp 8 2,zp 11 5,Io 12 (.mv (.k (.nilp)))])
 (.seq (.rg [If 15 1 11,Il 16 1 15,Io 17 (.call 38 [(.t 16)]),Im 13 17])
 (.seq (.seq (.rg [Im 18 13,Io 19 (.isnil .p (.t 18)),Im 20 19,Fm 21 20 4,Jf 22 20 (.isnil .p (.t 21)),ye 23 20 22,Im 24 23,Fa 25 24 0 11,Fl 26 24 1 25,Jf 27 24 (.bi .lss .i64 (.t 26) (.k (.int .i64 1))),ye 28 24 27,Im 29 28,Fa 30 29 0 11,Fl 31 29 1 30,Jf 32 29 (.bi .gtr .i64 (.t 31) (.k (.int .i64 64))),ye 33 29 32,Im 34 33,Fa 35 34 2 11,Fl 36 34 1 35,Jf 37 34 (.bi .lss .i64 (.t 36) (.k (.int .i64 0))),ye 38 34 37])
 (.cond (.t 38) (.seq (.rg [Io 12 (.mv (.k (.nilp)))])
 .ret) .skip))
 (.seq (.reg [0,1,2,3,5,7,8,4,6,9,10,11,12] [zc 39 3 6,zc 40 2 7,zc 41 5 8,Im 42 3,Im 44 13,Im 46 4,zc 47 3 11,⟨some 43,none,.call 39 [(.t 39),(.t 40),(.t 41),(.t 42)],[6]⟩,⟨some 45,none,.call 40 [],[6]⟩,Io 48 (.mkm (.one (.i .i64))),Io 49 (.bld [.nilp,.nilp,.nilp,.nilp,.int .i64 0,.int .i64 0,.int .i64 0,.nilm,.int .i64 0,.bool false] [(0,1,(.t 43)),(1,1,(.t 44)),(2,1,(.t 45)),(3,1,(.t 46)),(4,3,(.t 47)),(7,1,(.t 48))]),Io 50 (.box (.t 49)),Im 14 50])
 (.seq (.rg [Im 51 14,Io 52 (.call 41 [(.t 51)])])
 (.seq (.rg [Im 53 14,Im 12 53])
 .ret)))))⟩
theorem ck18:za Tryz.prog 18 ir18=true:=by kernel_rfl
def ir19:zf:=⟨22,1,[.c 2 5 true],.seq (.rg [Io 2 (.alloc [.int .i64 0,.int .i64 0,.str [],.sl .nil 5 [],.sl .nil 6 []])])
 (.seq (.rg [Io 6 (.bld [.int .i64 0,.int .i64 0,.str [],.sl .nil 5 [],.sl .nil 6 []] [(0,1,(.k (.int .i64 6)))]),Io 3 (.alloc [.int .i64 0,.int .i64 0,.str [],.sl .nil 5 [],.sl .nil 6 []]),⟨none,none,.st 5 (.t 3) (.t 6),[]⟩])
 (.seq (.seq (.rg [Im 7 0,zD 8 7,zj 9 0])
 (.block 0 (.loop [2,3,7,8,9] (.seq (.rg [zK 10 9 8])
 (.seq (.cond (.t 10) .skip (.exit 0))
 (.seq (.block 1 (.seq (.rg [zF 11 2 7 9,zc 12 2 11,Io 5 (.alloc [.sl .nil 2 [],.int .i64 0]),⟨none,none,.st 2 (.t 5) (.t 12),[]⟩])
 (.reg [0,1,2,3,4,5,6,7] [If 13 3 3,Il 14 1 13,zc 15 2 5,⟨some 16,none,.call 42 [(.t 15)],[1]⟩,Io 17 (.bls 5 1 [.int .i64 0,.int .i64 0,.str [],.sl .nil 5 [],.sl .nil 6 []] [(0,(.t 16))]),z1 18 5 80 14 17,If 19 3 3,⟨none,none,.st 1 (.t 19) (.t 18),[]⟩])))
 (.rg [zC 20 9 1,Im 9 20])))))))
 (.seq (.rg [zc 21 5 3,⟨none,none,.st 5 (.t 2) (.t 21),[]⟩])
 .ret)))⟩
theorem ck19:za Tryz.prog 19 ir19=true:=by kernel_rfl
def ir23:zf:=⟨13,1,[.t 2],.seq (.rg [Io 1 (.box (.t 0)),zh 2 false])
 (.seq (.rg [zc 3 3 1,Io 4 (.call 50 [(.t 3)]),zN 5 4 0,Im 6 5,Ja 7 6 0 1,Jl 8 6 1 7,Jt 9 6 (.mkfn 52 [] [(.t 1)]),Jt 10 6 (.call 51 [(.t 8),(.t 9)]),Jt 11 6 (.not (.t 10)),zI 12 6 11,Im 2 12])
 .ret)⟩
theorem ck23:za Tryz.prog 23 ir23=true:=by kernel_rfl
def ir24:zf:=⟨51,1,[.t 2],.seq (.rg [zh 2 false])
 (.seq (.rg [Io 9 (.mkm (.one .s)),Im 3 9])
 (.seq (.seq (.rg [Im 10 0,zD 11 10,zj 12 0])
 (.block 0 (.loop [3,10,11,12] (.seq (.rg [zK 13 12 11])
 (.seq (.cond (.t 13) .skip (.exit 0))
 (.seq (.block 1 (.seq (.rg [zF 14 2 10 12,zc 15 2 14,Io 5 (.alloc [.str [],.sl .nil 4 []]),⟨none,none,.st 2 (.t 5) (.t 15),[]⟩])
 (.seq (.seq (.rg [Im 16 3,If 17 0 5,Il 18 1 17,Io 19 (.lkp (.one .s) (.bool false) false (.t 16) (.t 18)),Im 20 19,Fa 21 20 0 5,Fl 22 20 1 21,Jf 23 20 (.call 56 [(.t 22)]),Jf 24 20 (.not (.t 23)),ye 25 20 24])
 (.cond (.t 25) (.seq (.rg [zh 2 false])
 .ret) .skip))
 (.seq (.rg [Im 26 3,If 27 0 5,Il 28 1 27,⟨none,none,.mup (.one .s) (.t 26) (.t 28) (.k (.bool true)),[]⟩])
 (.seq (.rg [Io 29 (.mkm (.one .s)),Im 6 29])
 (.seq (.rg [If 30 1 5,Il 31 1 30,zD 32 31,zj 33 0])
 (.block 2 (.loop [3,6,10,11,12,31,32,33] (.seq (.rg [zK 34 33 32])
 (.seq (.cond (.t 34) .skip (.exit 2))
 (.seq (.block 3 (.seq (.rg [zF 35 4 31 33,zc 36 4 35,Io 8 (.alloc [.str [],.str [],.sl .nil 6 [],.bool false]),⟨none,none,.st 4 (.t 8) (.t 36),[]⟩])
 (.seq (.seq (.rg [Im 37 6,If 38 0 8,Il 39 1 38,Io 40 (.lkp (.one .s) (.bool false) false (.t 37) (.t 39)),Im 41 40,Jf 42 41 (.ld 4 true (.t 8)),Jf 43 41 (.call 57 [(.t 42)]),Jf 44 41 (.not (.t 43)),ye 45 41 44])
 (.cond (.t 45) (.seq (.rg [zh 2 false])
 .ret) .skip))
 (.rg [Im 46 6,If 47 0 8,Il 48 1 47,⟨none,none,.mup (.one .s) (.t 46) (.t 48) (.k (.bool true)),[]⟩]))))
 (.rg [zC 49 33 1,Im 33 49]))))))))))))
 (.rg [zC 50 12 1,Im 12 50])))))))
 (.seq (.rg [zh 2 true])
 .ret)))⟩
theorem ck24:za Tryz.prog 24 ir24=true:=by kernel_rfl
def ir25:zf:=⟨7,1,[.t 2],.seq (.rg [Io 2 (.mv (.k (.nilp)))])
 (.seq (.rg [Im 3 0,Io 4 (.call 43 [(.t 3)]),Io 5 (.bld [.sl .nil 2 [],.sl .nil 7 []] [(0,1,(.t 4))]),Io 6 (.box (.t 5)),Im 2 6])
 .ret)⟩
theorem ck25:za Tryz.prog 25 ir25=true:=by kernel_rfl
def ir26:zf:=⟨110,1,[.c 2 3 true,.t 3],.seq (.rg [Io 2 (.alloc [.str [],.str [],.sl .nil 6 []]),zj 3 0])
 (.scope (.seq (.rg [Im 13 0,Io 14 (.call 58 [(.t 13)]),Im 12 14,zr 15 12 0,zr 16 12 1,Io 4 (.alloc [.int .i64 0,.int .i64 0,.str [],.sl .nil 5 [],.sl .nil 6 []]),⟨none,none,.st 5 (.t 4) (.t 15),[]⟩,Im 5 16])
 (.seq (.block 0 (.seq (.rg [Im 18 5,Io 19 (.bi .neq .i64 (.t 18) (.k (.int .i64 0))),Im 17 19])
 (.cond (.t 17) (.seq (.rg [Io 20 (.bld [.str [],.str [],.sl .nil 6 []] []),Im 21 5,⟨none,none,.st 3 (.t 2) (.t 20),[]⟩,Im 3 21])
 .ret) (.seq (.rg [If 23 0 4,Il 24 1 23,Io 25 (.bi .neq .i64 (.t 24) (.k (.int .i64 7))),Im 22 25])
 (.cond (.t 22) (.seq (.rg [Io 26 (.bld [.str [],.str [],.sl .nil 6 []] []),⟨none,none,.st 3 (.t 2) (.t 26),[]⟩,zj 3 7])
 .ret) .skip)))))
 (.seq (.seq (.rg [If 28 4 4,Il 29 1 28,Io 30 (.call 59 [(.k (.str [113,117,101,114,121])),(.t 29)]),Im 27 30,zr 31 27 0,zr 32 27 1,Io 6 (.alloc [.int .i64 0,.int .i64 0,.str [],.sl .nil 5 [],.sl .nil 6 []]),⟨none,none,.st 5 (.t 6) (.t 31),[]⟩,Im 7 32])
 (.seq (.rg [Im 33 7,zW 34 33])
 (.cond (.t 34) (.seq (.rg [Io 35 (.bld [.str [],.str [],.sl .nil 6 []] []),⟨none,none,.st 3 (.t 2) (.t 35),[]⟩,zj 3 6])
 .ret) .skip)))
 (.seq (.rg [Io 8 (.alloc [.str [],.str [],.sl .nil 6 []])])
 (.seq .skip
 (.seq (.seq (.rg [If 36 4 4,Il 37 1 36,zD 38 37,zj 39 0])
 (.block 1 (.loop [2,8,37,38,39] (.seq (.rg [zK 40 39 38])
 (.seq (.cond (.t 40) .skip (.exit 1))
 (.seq (.block 2 (.seq (.rg [zF 41 6 37 39,zc 42 6 41,Io 10 (.alloc [.str [],.int .i64 0,.int .i64 0,.str [],.sl .nil 5 [],.sl .nil 6 []]),⟨none,none,.st 6 (.t 10) (.t 42),[]⟩])
 (.seq (.rg [If 43 1 10,If 44 0 43,Il 45 1 44,zN 46 45 0,Im 11 46])
 (.block 3 (.seq (.rg [If 48 0 10,Il 49 1 48,Io 50 (.bs .eql (.t 49) (.k (.str [113,117,101,114,121]))),Im 51 50,Ja 52 51 1 10,Ja 53 51 0 52,Jl 54 51 1 53,Jt 55 51 (.bi .eql .i64 (.t 54) (.k (.int .i64 4))),zI 56 51 55,Im 47 56])
 (.cond (.t 47) (.rg [If 57 1 10,If 58 2 57,Il 59 1 58,If 60 0 8,⟨none,none,.st 1 (.t 60) (.t 59),[]⟩]) (.seq (.rg [If 62 0 10,Il 63 1 62,Io 64 (.bs .eql (.t 63) (.k (.str [118,97,114,105,97,98,108,101,115]))),Im 65 64,Ja 66 65 1 10,Ja 67 65 0 66,Jl 68 65 1 67,Jt 69 65 (.bi .eql .i64 (.t 68) (.k (.int .i64 7))),zI 70 65 69,Im 61 70])
 (.cond (.t 61) (.rg [If 71 1 10,If 72 4 71,Il 73 1 72,If 74 2 8,⟨none,none,.st 1 (.t 74) (.t 73),[]⟩]) (.seq (.rg [If 76 0 10,Il 77 1 76,Io 78 (.bs .eql (.t 77) (.k (.str [111,112,101,114,97,116,105,111,110,78,97,109,101]))),Im 79 78,Ja 80 79 1 10,Ja 81 79 0 80,Jl 82 79 1 81,Jt 83 79 (.bi .eql .i64 (.t 82) (.k (.int .i64 4))),zI 84 79 83,Im 75 84])
 (.cond (.t 75) (.rg [If 85 1 10,If 86 2 85,Il 87 1 86,If 88 1 8,⟨none,none,.st 1 (.t 88) (.t 87),[]⟩]) (.seq (.rg [If 90 0 10,Il 91 1 90,Io 92 (.bs .eql (.t 91) (.k (.str [113,117,101,114,121]))),Im 93 92,Fm 94 93 11,Jf 95 93 (.not (.t 94)),Fm 96 93 95,Ja 97 96 0 10,Jl 98 96 1 97,Jt 99 96 (.bs .eql (.t 98) (.k (.str [118,97,114,105,97,98,108,101,115]))),Jm 100 96 99,Fa 101 100 0 10,Fl 102 100 1 101,Jf 103 100 (.bs .eql (.t 102) (.k (.str [111,112,101,114,97,116,105,111,110,78,97,109,101]))),Jt 104 96 (.pick (.t 100) (.k (.bool true)) (.t 103)),Jf 105 93 (.pick (.t 96) (.t 104) (.k (.bool false))),ye 106 93 105,Im 89 106])
 (.cond (.t 89) (.seq (.rg [Io 107 (.bld [.str [],.str [],.sl .nil 6 []] []),⟨none,none,.st 3 (.t 2) (.t 107),[]⟩,zj 3 7])
 .ret) (.exit 2)))))))))))))
 (.rg [zC 108 39 1,Im 39 108])))))))
 (.seq (.rg [zc 109 3 8,⟨none,none,.st 3 (.t 2) (.t 109),[]⟩,zj 3 0])
 .ret))))))))⟩
theorem ck26:za Tryz.prog 26 ir26=true:=by kernel_rfl
def ir28:zf:=⟨26,2,[.t 4],.seq (.rg [zp 2 0,zp 3 1,zj 4 0])
 (.scope (.seq (.seq (.rg [zc 7 3 2,Io 8 (.call 50 [(.t 7)]),Io 9 (.bi .neq .i64 (.t 8) (.k (.int .i64 0))),Im 10 9,Jf 11 10 (.ld 2 true (.t 3)),Jf 12 10 (.call 62 [(.t 11)]),Jf 13 10 (.not (.t 12)),ye 14 10 13])
 (.cond (.t 14) (.seq (.rg [zj 4 25])
 .ret) .skip))
 (.seq (.rg [zj 5 0])
 (.seq .skip
 (.seq (.seq (.rg [zj 6 1])
 (.block 0 (.loop [2,3,5,6] (.seq (.seq (.rg [Im 15 6,Io 16 (.bi .leq .i64 (.t 15) (.k (.int .i64 24)))])
 (.cond (.t 16) .skip (.exit 0)))
 (.seq (.block 1 (.seq (.rg [zc 19 3 2,zc 20 2 3,Im 21 6,Io 22 (.call 63 [(.t 19),(.t 20),(.t 21)]),zW 23 22])
 (.cond (.t 23) (.seq (.rg [Im 24 6,Im 5 24])
 (.exit 0)) .skip)))
 (.rg [Im 17 6,zC 18 17 1,Im 6 18]))))))
 (.seq (.rg [Im 25 5,Im 4 25])
 .ret))))))⟩
theorem ck28:za Tryz.prog 28 ir28=true:=by kernel_rfl
def ir30:zf:=⟨27,2,[.c 4 5 true,.t 5],.seq (.rg [zp 2 0,zp 3 1,Io 4 (.alloc [.int .i64 0,.str [],.sl .nil 10 [],.sl .nil 2 [],.sl .nil 7 []]),zj 5 0])
 (.seq (.rg [If 7 0 2,Il 8 1 7,Io 9 (.mkfn 66 [] [(.t 3)]),Io 10 (.call 65 [(.t 8),(.t 9)]),Im 6 10])
 (.seq (.seq (.rg [Il 11 1 3,Io 12 (.bs .eql (.t 11) (.k (.str [])))])
 (.cond (.t 12) (.seq (.rg [If 13 0 2,Il 14 1 13,zD 15 14,VA 16 15 1,Im 6 16])
 (.seq (.rg [Im 17 6,Io 18 (.bi .neq .i64 (.t 17) (.k (.int .i64 0)))])
 (.cond (.t 18) (.rg [Io 6 (.mv (.k (.int .i64 (-1))))]) .skip))) .skip))
 (.seq (.seq (.rg [Im 19 6,Io 20 (.bi .lss .i64 (.t 19) (.k (.int .i64 0)))])
 (.cond (.t 20) (.seq (.rg [Io 21 (.bld [.int .i64 0,.str [],.sl .nil 10 [],.sl .nil 2 [],.sl .nil 7 []] []),⟨none,none,.st 5 (.t 4) (.t 21),[]⟩,zj 5 6])
 .ret) .skip))
 (.seq (.rg [If 22 0 2,Il 23 1 22,Im 24 6,zF 25 5 23 24,zc 26 5 25,⟨none,none,.st 5 (.t 4) (.t 26),[]⟩,zj 5 0])
 .ret))))⟩
theorem ck30:za Tryz.prog 30 ir30=true:=by kernel_rfl
def ir31:zf:=⟨29,3,[.t 6,.t 7],.seq (.rg [zp 3 0,Io 6 (.mv (.k (.sl .nil 6 []))),zj 7 0])
 (.seq (.rg [Io 8 (.mv (.k (.sl .nil 10 [])))])
 (.seq (.seq (.rg [Im 11 1,zD 12 11,zj 13 0])
 (.block 0 (.loop [2,3,8,11,12,13] (.seq (.rg [zK 14 13 12])
 (.seq (.cond (.t 14) .skip (.exit 0))
 (.seq (.block 1 (.seq (.rg [zF 15 10 11 13,zc 16 10 15,Io 10 (.alloc [.str [],.str [],.int .i64 0,.int .i64 0,.bool false,.int .i64 0,.int .i64 0,.str [],.sl .nil 5 [],.sl .nil 6 []]),⟨none,none,.st 10 (.t 10) (.t 16),[]⟩])
 (.rg [Im 17 8,zc 18 10 10,Io 19 (.bls 10 1 [.str [],.str [],.int .i64 0,.int .i64 0,.bool false,.int .i64 0,.int .i64 0,.str [],.sl .nil 5 [],.sl .nil 6 []] [(0,(.t 18))]),z1 20 10 136 17 19,Im 8 20])))
 (.rg [zC 21 13 1,Im 13 21])))))))
 (.seq (.rg [zc 22 3 3,Io 23 (.bld [.sl .nil 6 [],.str [],.str [],.bool false,.bool false,.sl .nil 6 []] [(0,3,(.t 22))]),Im 24 8,Im 25 2,Io 26 (.call 67 [(.t 23),(.t 24),(.t 25)]),zr 27 26 0,zr 28 26 1,Im 6 27,Im 7 28])
 .ret)))⟩
theorem ck31:za Tryz.prog 31 ir31=true:=by kernel_rfl
def ir32:zf:=⟨9,1,[.t 2],.seq (.rg [zp 1 0,zh 2 false])
 (.seq (.rg [zc 3 5 1,Io 4 (.call 68 [(.t 3)]),Im 5 4,Jt 6 5 (.ld 5 true (.t 1)),Jt 7 5 (.call 69 [(.t 6)]),zI 8 5 7,Im 2 8])
 .ret)⟩
theorem ck32:za Tryz.prog 32 ir32=true:=by kernel_rfl
def ir33:zf:=⟨94,2,[.t 4],.seq (.rg [zp 3 1,Io 4 (.mv (.k (.sl .nil 1 [])))])
 (.seq (.seq (.rg [If 9 0 3,Il 10 1 9])
 (.block 0 (.seq (.rg [zN 12 10 0,Im 11 12])
 (.cond (.t 11) (.seq (.rg [Im 13 0,Io 14 (.apps (.t 13) (.k (.str [110,117,108,108]))),Im 4 14])
 .ret) (.seq (.rg [zN 16 10 1,Im 15 16])
 (.cond (.t 15) (.seq (.rg [Im 17 0,If 18 1 3,Il 19 1 18,zN 20 19 1,Io 21 (.call 70 [(.t 17),(.t 20)]),Im 4 21])
 .ret) (.seq (.rg [zN 23 10 2,Im 22 23])
 (.cond (.t 22) (.seq (.rg [Im 24 0,If 25 1 3,Il 26 1 25,Io 27 (.call 71 [(.t 24),(.t 26),(.k (.int .i64 10))]),Im 4 27])
 .ret) (.seq (.rg [zN 29 10 3,Im 28 29])
 (.cond (.t 28) (.seq (.rg [Im 30 0,If 31 2 3,Il 32 1 31,Io 33 (.apps (.t 30) (.t 32)),Im 4 33])
 .ret) (.seq (.rg [zN 35 10 4,Im 34 35])
 (.cond (.t 34) (.seq (.rg [Im 36 0,If 37 2 3,Il 38 1 37,Io 39 (.call 72 [(.t 36),(.t 38)]),Im 4 39])
 .ret) (.seq (.rg [zN 41 10 6,Im 40 41])
 (.cond (.t 40) (.seq (.rg [Im 42 0,Io 43 (.bls 1 1 [.int .u8 0] [(0,(.k (.int .u8 91)))]),z1 44 1 1 42 43,Im 0 44])
 (.seq (.seq (.rg [If 45 3 3,Il 46 1 45,zD 47 46,zj 48 0])
 (.block 1 (.loop [0,46,47,48] (.seq (.rg [zK 49 48 47])
 (.seq (.cond (.t 49) .skip (.exit 1))
 (.seq (.block 2 (.seq (.rg [Im 50 48,zF 51 5 46 48,zc 52 5 51,Io 6 (.alloc [.int .i64 0,.int .i64 0,.str [],.sl .nil 5 [],.sl .nil 6 []]),Im 5 50,⟨none,none,.st 5 (.t 6) (.t 52),[]⟩])
 (.seq (.seq (.rg [Im 53 5,YV 54 53 0])
 (.cond (.t 54) (.rg [Im 55 0,Io 56 (.bls 1 1 [.int .u8 0] [(0,(.k (.int .u8 44)))]),z1 57 1 1 55 56,Im 0 57]) .skip))
 (.rg [Im 58 0,zc 59 5 6,Io 60 (.call 33 [(.t 58),(.t 59)]),Im 0 60]))))
 (.rg [zC 61 48 1,Im 48 61])))))))
 (.seq (.rg [Im 62 0,Io 63 (.bls 1 1 [.int .u8 0] [(0,(.k (.int .u8 93)))]),z1 64 1 1 62 63,Im 4 64])
 .ret))) .skip))))))))))))))
 (.seq (.rg [Im 65 0,Io 66 (.bls 1 1 [.int .u8 0] [(0,(.k (.int .u8 123)))]),z1 67 1 1 65 66,Im 0 67])
 (.seq (.seq (.rg [If 68 4 3,Il 69 1 68,zD 70 69,zj 71 0])
 (.block 3 (.loop [0,69,70,71] (.seq (.rg [zK 72 71 70])
 (.seq (.cond (.t 72) .skip (.exit 3))
 (.seq (.block 4 (.seq (.rg [Im 73 71,zF 74 6 69 71,zc 75 6 74,Io 8 (.alloc [.str [],.int .i64 0,.int .i64 0,.str [],.sl .nil 5 [],.sl .nil 6 []]),Im 7 73,⟨none,none,.st 6 (.t 8) (.t 75),[]⟩])
 (.seq (.seq (.rg [Im 76 7,YV 77 76 0])
 (.cond (.t 77) (.rg [Im 78 0,Io 79 (.bls 1 1 [.int .u8 0] [(0,(.k (.int .u8 44)))]),z1 80 1 1 78 79,Im 0 80]) .skip))
 (.reg [0,1,2,4,6,7,3,5,8,9] [Im 81 0,If 82 0 8,Il 83 1 82,Io 85 (.bls 1 1 [.int .u8 0] [(0,(.k (.int .u8 58)))]),If 87 1 8,zc 88 5 87,⟨some 84,none,.call 72 [(.t 81),(.t 83)],[5]⟩,⟨some 86,none,.app 1 1 (.t 84) (.t 85),[5]⟩,Io 89 (.call 33 [(.t 86),(.t 88)]),Im 0 89]))))
 (.rg [zC 90 71 1,Im 71 90])))))))
 (.seq (.rg [Im 91 0,Io 92 (.bls 1 1 [.int .u8 0] [(0,(.k (.int .u8 125)))]),z1 93 1 1 91 92,Im 4 93])
 .ret))))⟩
theorem ck33:za Tryz.prog 33 ir33=true:=by kernel_rfl
def ir34:zf:=⟨31,1,[.t 2],.seq (.rg [Io 2 (.mv (.k (.sl .nil 1 [])))])
 (.seq (.seq (.rg [Im 4 0,Io 5 (.isnil .p (.t 4))])
 (.cond (.t 5) (.seq (.rg [Io 2 (.mv (.k (.sl .nil 1 [])))])
 .ret) .skip))
 (.seq (.rg [Im 6 0,zk 7 6,If 8 1 7,Il 9 1 8,Io 10 (.call 73 [(.t 9)]),Im 3 10])
 (.seq (.seq (.reg [0,1,2,3,4,5,6,8,9,10,11,7,12,13,14,15] [Im 11 0,Io 12 (.call 74 [(.t 11)]),Im 13 12,Fm 14 13 0,Jf 15 13 (.nilchk (.t 14)),Fa 16 13 1 15,Fl 17 13 1 16,Fm 19 13 0,Jf 20 13 (.nilchk (.t 19)),Fa 21 13 1 20,Fl 22 13 1 21,⟨some 18,(some (13,false)),.call 75 [(.t 17)],[10]⟩,Jf 23 13 (.call 76 [(.t 22)]),Jf 24 13 (.bi .add .i64 (.t 18) (.t 23)),Jf 25 13 (.bi .gtr .i64 (.t 24) (.k (.int .i64 0))),ye 26 13 25])
 (.cond (.t 26) (.seq (.rg [Im 27 3,Im 2 27])
 .ret) .skip))
 (.seq (.rg [Io 28 (.bls 1 1 [.int .i64 0] [(0,(.k (.int .i64 0)))]),Im 29 3,z1 30 1 8 28 29,Im 2 30])
 .ret))))⟩
theorem ck34:za Tryz.prog 34 ir34=true:=by kernel_rfl
def ir35:zf:=⟨39,2,[.t 4],.seq (.rg [zh 4 false])
 (.scope (.seq (.rg [zh 5 false])
 (.seq .skip
 (.seq (.seq (.rg [Im 8 0,Io 9 (.call 34 [(.t 8)]),zD 10 9,zj 11 0])
 (.block 0 (.loop [0,1,5,9,10,11] (.seq (.rg [zK 12 11 10])
 (.seq (.cond (.t 12) .skip (.exit 0))
 (.seq (.block 1 (.seq (.rg [zF 13 1 9 11,Il 14 1 13,Im 7 14])
 (.seq (.rg [Im 15 7,Im 16 1,Io 17 (.bi .eql .i64 (.t 15) (.t 16))])
 (.cond (.t 17) (.seq (.rg [zh 5 true])
 (.exit 0)) .skip))))
 (.rg [zC 18 11 1,Im 11 18])))))))
 (.seq (.block 2 (.seq (.rg [Im 23 5,zW 24 23,Im 22 24])
 (.cond (.t 22) (.seq (.rg [zh 4 false])
 .ret) (.seq (.rg [Im 26 1,zN 27 26 0,Im 25 27])
 (.cond (.t 25) (.rg [Im 28 0,Io 29 (.call 77 [(.t 28)])]) (.rg [Im 19 0,Im 20 1,Io 21 (.call 78 [(.t 19),(.t 20)])]))))))
 (.seq (.rg [Im 30 0,zk 31 30,If 32 8 31,Il 33 1 32,zC 34 33 1,zk 35 30,If 36 8 35,⟨none,none,.st 1 (.t 36) (.t 34),[]⟩])
 (.seq (.rg [Im 37 0,Io 38 (.call 41 [(.t 37)])])
 (.seq (.rg [zh 4 true])
 .ret))))))))⟩
theorem ck35:za Tryz.prog 35 ir35=true:=by kernel_rfl
def ir36:zf:=⟨25,2,[.t 4],.seq (.rg [zj 4 0])
 (.scope (.seq (.seq (.rg [Im 8 1,zD 9 8,zN 10 9 0])
 (.cond (.t 10) (.seq (.rg [Io 4 (.mv (.k (.int .i64 (-1))))])
 .ret) .skip))
 (.seq (.rg [Im 11 1,Io 12 (.call 79 [(.t 11)]),Im 5 12])
 (.seq .skip
 (.seq (.seq (.rg [Im 13 1,zD 14 13,zj 15 0])
 (.block 0 (.loop [0,5,13,14,15] (.seq (.rg [zK 16 15 14])
 (.seq (.cond (.t 16) .skip (.exit 0))
 (.seq (.block 1 (.seq (.rg [zF 17 1 13 15,Il 18 1 17,Im 7 18])
 (.seq (.rg [Im 19 7,Im 20 0,Io 21 (.bi .eql .i64 (.t 19) (.t 20))])
 (.cond (.t 21) (.seq (.rg [Im 22 7,Im 5 22])
 (.exit 0)) .skip))))
 (.rg [zC 23 15 1,Im 15 23])))))))
 (.seq (.rg [Im 24 5,Im 4 24])
 .ret))))))⟩
theorem ck36:za Tryz.prog 36 ir36=true:=by kernel_rfl
def ir37:zf:=⟨41,1,[.c 2 8 true,.t 3],.seq (.rg [Io 2 (.alloc [.int .i64 0,.int .i64 0,.str [],.sl .nil 5 [],.sl .nil 6 [],.sl .nil 2 [],.bool false,.int .i64 0]),zh 3 false])
 (.seq (.block 0 (.seq (.rg [Im 5 0,Io 6 (.isnil .p (.t 5)),Im 7 6,Fm 8 7 0,Jf 9 7 (.call 34 [(.t 8)]),Jf 10 7 (.len (.t 9)),Jf 11 7 (.bi .gtr .i64 (.t 10) (.k (.int .i64 0))),ye 12 7 11,Im 4 12])
 (.cond (.t 4) (.seq (.rg [Io 13 (.bld [.int .i64 0,.int .i64 0,.str [],.sl .nil 5 [],.sl .nil 6 [],.sl .nil 2 [],.bool false,.int .i64 0] []),⟨none,none,.st 8 (.t 2) (.t 13),[]⟩,zh 3 false])
 .ret) (.seq (.rg [Im 15 0,zk 16 15,If 17 9 16,Il 18 1 17,Im 14 18])
 (.cond (.t 14) (.seq (.rg [Io 19 (.bld [.sl .nil 2 [],.int .i64 0] [(1,1,(.k (.int .i64 12)))]),Io 20 (.bls 2 1 [.sl .nil 2 [],.int .i64 0] [(0,(.t 19))]),Im 21 0,zk 22 21,If 23 8 22,Il 24 1 23,Io 25 (.bld [.int .i64 0,.int .i64 0,.str [],.sl .nil 5 [],.sl .nil 6 [],.sl .nil 2 [],.bool false,.int .i64 0] [(5,1,(.t 20)),(6,1,(.k (.bool true))),(7,1,(.t 24))]),⟨none,none,.st 8 (.t 2) (.t 25),[]⟩,zh 3 true])
 .ret) .skip)))))
 (.seq (.reg [0,1,2,3,5,6,7,8,10,11,12,13,4,9,14,15,16] [Im 26 0,zk 27 26,If 28 0 27,Il 29 1 28,Im 31 0,zk 32 31,If 33 0 32,Il 34 1 33,Im 36 0,zk 37 36,If 38 8 37,Il 39 1 38,⟨some 30,none,.call 80 [(.t 29)],[7,11]⟩,⟨some 35,none,.call 81 [(.t 34)],[11]⟩,Io 40 (.bld [.int .i64 0,.int .i64 0,.str [],.sl .nil 5 [],.sl .nil 6 [],.sl .nil 2 [],.bool false,.int .i64 0] [(0,5,(.t 30)),(5,1,(.t 35)),(7,1,(.t 39))]),⟨none,none,.st 8 (.t 2) (.t 40),[]⟩,zh 3 true])
 .ret))⟩
theorem ck37:za Tryz.prog 37 ir37=true:=by kernel_rfl
def ir38:zf:=⟨13,1,[.t 2],.seq (.rg [Io 2 (.mv (.k (.nilp)))])
 (.seq (.seq (.rg [Im 3 0,Io 4 (.bi .lss .i64 (.t 3) (.k (.int .i64 1))),Im 5 4,Fm 6 5 0,Jf 7 5 (.bi .gtr .i64 (.t 6) (.k (.int .i64 16))),ye 8 5 7])
 (.cond (.t 8) (.seq (.rg [Io 2 (.mv (.k (.nilp)))])
 .ret) .skip))
 (.seq (.rg [Im 9 0,Io 10 (.mksn [.int .i64 0,.str [],.sl .nil 1 []] 48 (.t 9)),Io 11 (.bld [.sl .nil 3 [],.sl .nil 2 []] [(0,1,(.t 10))]),Io 12 (.box (.t 11)),Im 2 12])
 .ret))⟩
theorem ck38:za Tryz.prog 38 ir38=true:=by kernel_rfl
def ir39:zf:=⟨88,4,[.t 8],.seq (.rg [Io 4 (.box (.t 0)),Io 5 (.box (.t 1)),zp 6 2,Io 8 (.mv (.k (.nilp)))])
 (.seq (.reg [0,1,3,4,6,7,2,9,5,8,10,11,12,13,14] [If 10 0 4,Il 11 1 10,If 13 0 5,Il 14 1 13,If 16 1 5,Il 17 1 16,⟨some 12,none,.call 82 [(.t 11)],[3,5]⟩,If 19 0 4,⟨some 15,none,.call 83 [(.t 14)],[5]⟩,Io 18 (.call 84 [(.t 17)]),⟨none,none,.st 1 (.t 19) (.t 12),[]⟩,If 20 0 5,⟨none,none,.st 1 (.t 20) (.t 15),[]⟩,If 21 1 5,⟨none,none,.st 1 (.t 21) (.t 18),[]⟩])
 (.seq (.reg [0,1,2,3,4,5,6,7,8,9] [zc 22 3 4,zc 23 2 5,Im 24 3,⟨some 25,none,.call 85 [(.t 24)],[0,1]⟩,Io 26 (.bld [.sl .nil 6 [],.str [],.str [],.sl .nil 5 [],.sl .nil 4 [],.sl .nil 6 [],.oth .nilFunc,.oth .nilFunc,.sl .nil 2 []] [(0,3,(.t 22)),(3,2,(.t 23)),(5,1,(.t 25))]),Io 27 (.box (.t 26)),Io 28 (.bld [.nilp,.nilp,.str [],.str [],.str [],.sl .nil 6 [],.bool false,.sl .nil 7 [],.sl .nil 2 [],.sl .nil 2 [],.sl .nil 8 [],.sl .nil 8 []] [(0,1,(.t 27))]),Io 29 (.box (.t 28)),Io 9 (.alloc [.nilp]),⟨none,none,.st 1 (.t 9) (.t 29),[]⟩])
 (.seq (.rg [Il 30 1 9,zk 31 30,If 32 0 31,Il 33 1 32,Io 34 (.mkfn 86 [] [(.t 9)]),zk 35 33,If 36 6 35,⟨none,none,.st 1 (.t 36) (.t 34),[]⟩])
 (.seq (.rg [Il 37 1 9,zk 38 37,If 39 0 38,Il 40 1 39,Io 41 (.mkfn 87 [] [(.t 9)]),zk 42 40,If 43 7 42,⟨none,none,.st 1 (.t 43) (.t 41),[]⟩])
 (.seq (.reg [0,2,3,5,6,1,4,7,8,9,10,11] [Il 44 1 9,zc 46 3 4,zc 47 5 6,If 49 4 6,Il 50 1 49,⟨some 45,none,.call 88 [],[0,1,2,4]⟩,⟨some 48,none,.call 89 [(.t 46),(.t 47)],[0,4]⟩,⟨some 51,none,.call 90 [(.t 50)],[0]⟩,Io 52 (.bld [.nilp,.str [],.str [],.str [],.sl .nil 6 [],.bool false,.sl .nil 7 [],.sl .nil 2 []] [(0,1,(.t 45)),(1,1,(.t 48)),(6,1,(.t 51))]),zk 53 44,If 54 1 53,⟨none,none,.st 8 (.t 54) (.t 52),[]⟩])
 (.seq (.block 0 (.seq (.rg [zc 69 2 5,Io 70 (.call 91 [(.t 69)]),Im 68 70])
 (.cond (.t 68) .skip (.seq (.rg [If 72 0 6,Il 73 1 72,zN 74 73 1,Im 71 74])
 (.cond (.t 71) (.reg [0,1,2,3,4,5,6,7,8,9,10,11,12] [Il 75 1 9,Il 76 1 9,zk 77 76,If 78 0 77,Il 79 1 78,Il 80 1 9,zk 81 80,If 82 1 81,zc 83 8 82,⟨some 84,none,.call 92 [(.t 79),(.t 83)],[0]⟩,zk 85 75,If 86 9 85,⟨none,none,.st 1 (.t 86) (.t 84),[]⟩]) (.reg [0,1,2,3,4,5,6,7,8,9,10,11,12,13] [Il 55 1 9,Il 56 1 9,zk 57 56,If 58 10 57,Il 59 1 58,Il 60 1 9,zk 61 60,If 62 1 61,zc 63 8 62,Io 64 (.bls 8 1 [.nilp,.str [],.str [],.str [],.sl .nil 6 [],.bool false,.sl .nil 7 [],.sl .nil 2 []] [(0,(.t 63))]),⟨some 65,none,.app 8 136 (.t 59) (.t 64),[0]⟩,zk 66 55,If 67 10 66,⟨none,none,.st 1 (.t 67) (.t 65),[]⟩]))))))
 (.seq (.rg [Il 87 1 9,Im 8 87])
 .ret)))))))⟩
theorem ck39:za Tryz.prog 39 ir39=true:=by kernel_rfl
def ir40:zf:=⟨4,0,[.t 0],.seq (.rg [Io 0 (.mv (.k (.nilp)))])
 (.seq (.rg [Io 1 (.mkm (.agg [.s,.s])),Io 2 (.bld [.nilm] [(0,1,(.t 1))]),Io 3 (.box (.t 2)),Im 0 3])
 .ret)⟩
theorem ck40:za Tryz.prog 40 ir40=true:=by kernel_rfl
def ir41:zf:=⟨34,1,[],.seq (.reg [0,1,2,3,4,5,6,7,8,9,10,11,12,13,14,15,16,17,18,19,20,21,22,23] [Im 2 0,zk 3 2,If 4 4 3,If 5 2 4,Il 6 1 5,YV 7 6 0,Im 8 7,Jm 9 8 0,Jt 10 8 (.nilchk (.t 9)),Ja 11 8 8 10,Jl 12 8 1 11,Jm 13 8 0,Jt 14 8 (.nilchk (.t 13)),Ja 15 8 4 14,Ja 16 8 2 15,Jl 17 8 1 16,Jt 18 8 (.bi .sub .i64 (.t 17) (.k (.int .i64 1))),Jt 19 8 (.bi .eql .i64 (.t 12) (.t 18)),zI 20 8 19,Im 21 20,Jm 22 21 0,Jt 23 21 (.call 74 [(.t 22)]),Jt 24 21 (.not (.t 23)),zI 25 21 24])
 (.cond (.t 25) (.seq (.rg [Im 26 0,zk 27 26,If 28 9 27,⟨none,none,.st 1 (.t 28) (.k (.bool true)),[]⟩])
 (.rg [Im 29 0,zk 30 29,If 31 1 30,Il 32 1 31,Io 33 (.call 93 [(.t 32)])])) .skip)⟩
theorem ck41:za Tryz.prog 41 ir41=true:=by kernel_rfl
def ir42:zf:=⟨23,1,[.c 2 5 true],.seq (.rg [zp 1 0,Io 2 (.alloc [.int .i64 0,.int .i64 0,.str [],.sl .nil 5 [],.sl .nil 6 []])])
 (.seq (.rg [If 4 1 1,Il 5 1 4,Io 6 (.call 5 [(.t 5)]),Io 7 (.call 15 [(.t 6)]),Io 8 (.call 14 [(.k (.str [109,101,115,115,97,103,101])),(.t 7)]),Io 3 (.alloc [.int .i64 0,.int .i64 0,.str [],.sl .nil 5 [],.sl .nil 6 []]),⟨none,none,.st 5 (.t 3) (.t 8),[]⟩])
 (.seq (.seq (.rg [If 9 0 1,Il 10 1 9,zD 11 10,YV 12 11 0])
 (.cond (.t 12) (.reg [0,1,2,3,4,5,6,7,8,9] [If 13 4 3,Il 14 1 13,If 15 0 1,Il 16 1 15,⟨some 17,none,.call 94 [(.t 16)],[1]⟩,Io 18 (.bld [.str [],.int .i64 0,.int .i64 0,.str [],.sl .nil 5 [],.sl .nil 6 []] [(0,1,(.k (.str [112,97,116,104]))),(1,5,(.t 17))]),Io 19 (.bls 6 1 [.str [],.int .i64 0,.int .i64 0,.str [],.sl .nil 5 [],.sl .nil 6 []] [(0,(.t 18))]),z1 20 6 96 14 19,If 21 4 3,⟨none,none,.st 1 (.t 21) (.t 20),[]⟩]) .skip))
 (.seq (.rg [zc 22 5 3,⟨none,none,.st 5 (.t 2) (.t 22),[]⟩])
 .ret)))⟩
theorem ck42:za Tryz.prog 42 ir42=true:=by kernel_rfl
def ir43:zf:=⟨38,1,[.t 2],.seq (.rg [Io 2 (.mv (.k (.sl .nil 2 [])))])
 (.seq (.rg [Io 3 (.mv (.k (.sl .nil 2 [])))])
 (.seq (.seq (.rg [Im 9 0,zD 10 9,zj 11 0])
 (.block 0 (.loop [3,9,10,11] (.seq (.rg [zK 12 11 10])
 (.seq (.cond (.t 12) .skip (.exit 0))
 (.seq (.block 1 (.seq (.rg [zF 13 2 9 11,zc 14 2 13,Io 5 (.alloc [.str [],.sl .nil 4 []]),⟨none,none,.st 2 (.t 5) (.t 14),[]⟩])
 (.seq (.rg [If 15 1 5,Il 16 1 15,Im 6 16])
 (.seq (.rg [If 17 1 5,⟨none,none,.st 1 (.t 17) (.k (.sl .nil 4 [])),[]⟩])
 (.seq (.seq (.rg [Im 18 6,zD 19 18,zj 20 0])
 (.block 2 (.loop [3,5,9,10,11,18,19,20] (.seq (.rg [zK 21 20 19])
 (.seq (.cond (.t 21) .skip (.exit 2))
 (.seq (.block 3 (.seq (.rg [zF 22 4 18 20,zc 23 4 22,Io 8 (.alloc [.str [],.str [],.sl .nil 6 [],.bool false]),⟨none,none,.st 4 (.t 8) (.t 23),[]⟩])
 (.reg [0,1,2,3,4,5,6,7] [If 24 1 5,Il 25 1 24,zc 26 4 8,⟨some 27,none,.call 95 [(.t 26)],[1]⟩,Io 28 (.bls 4 1 [.str [],.str [],.sl .nil 6 [],.bool false] [(0,(.t 27))]),z1 29 4 64 25 28,If 30 1 5,⟨none,none,.st 1 (.t 30) (.t 29),[]⟩])))
 (.rg [zC 31 20 1,Im 20 31])))))))
 (.rg [Im 32 3,zc 33 2 5,Io 34 (.bls 2 1 [.str [],.sl .nil 4 []] [(0,(.t 33))]),z1 35 2 40 32 34,Im 3 35]))))))
 (.rg [zC 36 11 1,Im 11 36])))))))
 (.seq (.rg [Im 37 3,Im 2 37])
 .ret)))⟩
theorem ck43:za Tryz.prog 43 ir43=true:=by kernel_rfl
def ir44:zf:=⟨8,1,[.c 2 2 true],.seq (.rg [Io 1 (.box (.t 0)),Io 2 (.alloc [.str [],.sl .nil 1 []])])
 (.seq (.rg [If 3 1 1,Il 4 1 3,Io 5 (.call 96 [(.t 4)]),If 6 1 1,⟨none,none,.st 1 (.t 6) (.t 5),[]⟩])
 (.seq (.rg [zc 7 2 1,⟨none,none,.st 2 (.t 2) (.t 7),[]⟩])
 .ret))⟩
theorem ck44:za Tryz.prog 44 ir44=true:=by kernel_rfl
def ir45:zf:=⟨8,1,[.c 2 5 true],.seq (.rg [Io 1 (.box (.t 0)),Io 2 (.alloc [.str [],.str [],.str [],.str [],.sl .nil 6 []])])
 (.seq (.rg [If 3 4 1,Il 4 1 3,Io 5 (.call 85 [(.t 4)]),If 6 4 1,⟨none,none,.st 1 (.t 6) (.t 5),[]⟩])
 (.seq (.rg [zc 7 5 1,⟨none,none,.st 5 (.t 2) (.t 7),[]⟩])
 .ret))⟩
theorem ck45:za Tryz.prog 45 ir45=true:=by kernel_rfl
def ir52:zf:=⟨13,2,[.t 3],.seq (.rg [Io 2 (.box (.t 0)),zh 3 false])
 (.seq (.rg [If 4 0 2,Il 5 1 4,zN 6 5 1,Im 7 6,Ja 8 7 3 2,Jl 9 7 1 8,Jt 10 7 (.mkfn 54 [] [(.t 1),(.t 2)]),Jt 11 7 (.call 53 [(.t 9),(.t 10)]),zI 12 7 11,Im 3 12])
 .ret)⟩
theorem ck52:za Tryz.prog 52 ir52=true:=by kernel_rfl
def ir54:zf:=⟨17,3,[.t 4],.seq (.rg [zp 3 0,zh 4 false])
 (.seq (.rg [zc 8 3 1,If 9 1 2,Il 10 1 9,zc 11 6 3,Io 12 (.call 55 [(.t 8),(.t 10),(.t 11)]),Im 7 12,zr 13 7 0,zr 14 7 1,Io 5 (.alloc [.int .i64 0,.str [],.str [],.str [],.str []]),⟨none,none,.st 5 (.t 5) (.t 13),[]⟩,Im 6 14])
 (.seq (.rg [Im 15 6,zW 16 15,Im 4 16])
 .ret))⟩
theorem ck54:za Tryz.prog 54 ir54=true:=by kernel_rfl
def ir55:zf:=⟨33,3,[.c 6 5 true,.t 7],.seq (.rg [zp 3 0,zp 5 2,Io 6 (.alloc [.int .i64 0,.str [],.str [],.str [],.str []]),zh 7 false])
 (.seq (.rg [zc 11 6 5,Io 12 (.call 110 [(.t 11)]),Im 10 12,zr 13 10 0,zr 14 10 1,Io 8 (.alloc [.int .i64 0,.str [],.str [],.str [],.str []]),⟨none,none,.st 5 (.t 8) (.t 13),[]⟩,Im 9 14])
 (.seq (.seq (.rg [Im 15 9,zW 16 15,Im 17 16,Fa 18 17 0 5,Fl 19 17 1 18,Jf 20 17 (.bs .eql (.t 19) (.k (.str [95,95,116,121,112,101,110,97,109,101]))),ye 21 17 20,Im 22 21,Jf 23 22 (.ld 3 true (.t 3)),Fm 24 22 1,Jf 25 22 (.ld 6 true (.t 5)),Fa 26 22 0 8,Fl 27 22 1 26,Jf 28 22 (.call 111 [(.t 23),(.t 24),(.t 25),(.t 27)]),Jf 29 22 (.not (.t 28)),ye 30 22 29])
 (.cond (.t 30) (.seq (.rg [Io 31 (.bld [.int .i64 0,.str [],.str [],.str [],.str []] []),⟨none,none,.st 5 (.t 6) (.t 31),[]⟩,zh 7 false])
 .ret) .skip))
 (.seq (.rg [zc 32 5 8,⟨none,none,.st 5 (.t 6) (.t 32),[]⟩,zh 7 true])
 .ret)))⟩
theorem ck55:za Tryz.prog 55 ir55=true:=by kernel_rfl
def ir57:zf:=⟨48,1,[.t 2],.seq (.rg [zp 1 0,zh 2 false])
 (.seq (.rg [Io 6 (.mkm (.one .s)),Im 3 6])
 (.seq (.seq (.rg [If 7 2 1,Il 8 1 7,zD 9 8,zj 10 0])
 (.block 0 (.loop [1,3,8,9,10] (.seq (.rg [zK 11 10 9])
 (.seq (.cond (.t 11) .skip (.exit 0))
 (.seq (.block 1 (.seq (.rg [zF 12 6 8 10,zc 13 6 12,Io 5 (.alloc [.str [],.int .i64 0,.int .i64 0,.str [],.sl .nil 5 [],.sl .nil 6 []]),⟨none,none,.st 6 (.t 5) (.t 13),[]⟩])
 (.seq (.seq (.rg [Im 14 3,If 15 0 5,Il 16 1 15,Io 17 (.lkp (.one .s) (.bool false) false (.t 14) (.t 16)),Im 18 17,Fa 19 18 0 5,Fl 20 18 1 19,Jf 21 18 (.call 56 [(.t 20)]),Jf 22 18 (.not (.t 21)),ye 23 18 22,Im 24 23,Fa 25 24 1 5,Jf 26 24 (.ld 5 true (.t 25)),Jf 27 24 (.call 68 [(.t 26)]),Jf 28 24 (.not (.t 27)),ye 29 24 28,Im 30 29,Fa 31 30 1 5,Jf 32 30 (.ld 5 true (.t 31)),Jf 33 30 (.call 113 [(.t 32)]),Jf 34 30 (.not (.t 33)),ye 35 30 34])
 (.cond (.t 35) (.seq (.rg [zh 2 false])
 .ret) .skip))
 (.rg [Im 36 3,If 37 0 5,Il 38 1 37,⟨none,none,.mup (.one .s) (.t 36) (.t 38) (.k (.bool true)),[]⟩]))))
 (.rg [zC 39 10 1,Im 10 39])))))))
 (.seq (.rg [If 40 0 1,Il 41 1 40,Io 42 (.call 56 [(.t 41)]),Im 43 42,Ja 44 43 1 1,Jl 45 43 1 44,Jt 46 43 (.call 56 [(.t 45)]),zI 47 43 46,Im 2 47])
 .ret)))⟩
theorem ck57:za Tryz.prog 57 ir57=true:=by kernel_rfl
def ir63:zf:=⟨53,3,[.t 6],.seq (.rg [zp 3 0,zp 4 1,zh 6 false])
 (.seq (.block 0 (.seq (.rg [Im 8 2,Io 9 (.bi .lss .i64 (.t 8) (.k (.int .i64 9))),Im 7 9])
 (.cond (.t 7) (.seq (.rg [zc 10 3 3,zc 11 2 4,Im 12 2,Io 13 (.call 123 [(.t 10),(.t 11),(.t 12)]),Im 6 13])
 .ret) (.seq (.rg [Im 15 2,Io 16 (.bi .lss .i64 (.t 15) (.k (.int .i64 12))),Im 14 16])
 (.cond (.t 14) (.seq (.rg [zc 17 3 3,zc 18 2 4,Im 19 2,Io 20 (.call 124 [(.t 17),(.t 18),(.t 19)]),Im 6 20])
 .ret) (.seq (.rg [Im 22 2,Io 23 (.bi .lss .i64 (.t 22) (.k (.int .i64 15))),Im 21 23])
 (.cond (.t 21) (.seq (.rg [zc 24 3 3,zc 25 2 4,Im 26 2,Io 27 (.call 125 [(.t 24),(.t 25),(.t 26)]),Im 6 27])
 .ret) (.seq (.rg [Im 29 2,Io 30 (.bi .lss .i64 (.t 29) (.k (.int .i64 18))),Im 28 30])
 (.cond (.t 28) (.seq (.rg [zc 31 3 3,zc 32 2 4,Im 33 2,Io 34 (.call 126 [(.t 31),(.t 32),(.t 33)]),Im 6 34])
 .ret) (.seq (.rg [Im 36 2,Io 37 (.bi .lss .i64 (.t 36) (.k (.int .i64 22))),Im 35 37])
 (.cond (.t 35) (.seq (.rg [zc 38 3 3,zc 39 2 4,Im 40 2,Io 41 (.call 127 [(.t 38),(.t 39),(.t 40)]),Im 6 41])
 .ret) (.seq (.rg [Im 43 2,Io 44 (.bi .lss .i64 (.t 43) (.k (.int .i64 24))),Im 42 44])
 (.cond (.t 42) (.seq (.rg [zc 45 3 3,zc 46 2 4,Im 47 2,Io 48 (.call 128 [(.t 45),(.t 46),(.t 47)]),Im 6 48])
 .ret) .skip)))))))))))))
 (.seq (.rg [zc 49 3 3,zc 50 2 4,Im 51 2,Io 52 (.call 129 [(.t 49),(.t 50),(.t 51)]),Im 6 52])
 .ret))⟩
theorem ck63:za Tryz.prog 63 ir63=true:=by kernel_rfl
def ir66:zf:=⟨8,2,[.t 3],.seq (.rg [zp 2 0,zh 3 false])
 (.seq (.rg [If 4 1 2,Il 5 1 4,Il 6 1 1,Io 7 (.bs .eql (.t 5) (.t 6)),Im 3 7])
 .ret)⟩
theorem ck66:za Tryz.prog 66 ir66=true:=by kernel_rfl
def ir67:zf:=⟨44,3,[.t 6,.t 7],.seq (.rg [zp 3 0,Io 6 (.mv (.k (.sl .nil 6 []))),zj 7 0])
 (.scope (.seq (.rg [Io 8 (.mv (.k (.sl .nil 6 [])))])
 (.seq .skip
 (.seq (.seq (.rg [Im 14 1,zD 15 14,zj 16 0])
 (.block 0 (.loop [2,3,8,14,15,16] (.seq (.rg [zK 17 16 15])
 (.seq (.cond (.t 17) .skip (.exit 0))
 (.seq (.block 1 (.seq (.rg [zF 18 10 14 16,zc 19 10 18,Io 10 (.alloc [.str [],.str [],.int .i64 0,.int .i64 0,.bool false,.int .i64 0,.int .i64 0,.str [],.sl .nil 5 [],.sl .nil 6 []]),⟨none,none,.st 10 (.t 10) (.t 19),[]⟩])
 (.seq (.rg [zc 21 6 3,zc 22 10 10,Im 23 2,Io 24 (.call 131 [(.t 21),(.t 22),(.t 23)]),Im 20 24,zr 25 20 0,zr 26 20 1,zr 27 20 2,Io 11 (.alloc [.int .i64 0,.int .i64 0,.str [],.sl .nil 5 [],.sl .nil 6 []]),⟨none,none,.st 5 (.t 11) (.t 25),[]⟩,Im 12 26,Im 13 27])
 (.seq (.block 2 (.seq (.rg [Im 29 13,Io 30 (.bi .neq .i64 (.t 29) (.k (.int .i64 0))),Im 28 30])
 (.cond (.t 28) (.seq (.rg [Im 31 13,Io 6 (.mv (.k (.sl .nil 6 []))),Im 7 31])
 .ret) (.seq (.rg [Im 33 12,zW 34 33,Im 32 34])
 (.cond (.t 32) (.exit 1) .skip)))))
 (.rg [Im 35 8,If 36 0 10,Il 37 1 36,zc 38 5 11,Io 39 (.bld [.str [],.int .i64 0,.int .i64 0,.str [],.sl .nil 5 [],.sl .nil 6 []] [(0,1,(.t 37)),(1,5,(.t 38))]),Io 40 (.bls 6 1 [.str [],.int .i64 0,.int .i64 0,.str [],.sl .nil 5 [],.sl .nil 6 []] [(0,(.t 39))]),z1 41 6 96 35 40,Im 8 41])))))
 (.rg [zC 42 16 1,Im 16 42])))))))
 (.seq (.rg [Im 43 8,Im 6 43,zj 7 0])
 .ret)))))⟩
theorem ck67:za Tryz.prog 67 ir67=true:=by kernel_rfl
def ir69:zf:=⟨49,1,[.t 2],.seq (.rg [zp 1 0,zh 2 false])
 (.seq (.seq (.rg [If 8 0 1,Il 9 1 8,zN 10 9 5,Im 11 10,Fa 12 11 0 1,Fl 13 11 1 12,Jf 14 11 (.bi .eql .i64 (.t 13) (.k (.int .i64 8))),ye 15 11 14])
 (.cond (.t 15) (.seq (.rg [zh 2 false])
 .ret) .skip))
 (.seq (.seq (.rg [If 16 3 1,Il 17 1 16,zD 18 17,zj 19 0])
 (.block 0 (.loop [1,17,18,19] (.seq (.rg [zK 20 19 18])
 (.seq (.cond (.t 20) .skip (.exit 0))
 (.seq (.block 1 (.seq (.rg [zF 21 5 17 19,zc 22 5 21,Io 4 (.alloc [.int .i64 0,.int .i64 0,.str [],.sl .nil 5 [],.sl .nil 6 []]),⟨none,none,.st 5 (.t 4) (.t 22),[]⟩])
 (.seq (.rg [zc 23 5 4,Io 24 (.call 69 [(.t 23)]),zW 25 24])
 (.cond (.t 25) (.seq (.rg [zh 2 false])
 .ret) .skip))))
 (.rg [zC 26 19 1,Im 19 26])))))))
 (.seq (.rg [Io 27 (.mkm (.one .s)),Im 5 27])
 (.seq (.seq (.rg [If 28 4 1,Il 29 1 28,zD 30 29,zj 31 0])
 (.block 2 (.loop [5,29,30,31] (.seq (.rg [zK 32 31 30])
 (.seq (.cond (.t 32) .skip (.exit 2))
 (.seq (.block 3 (.seq (.rg [zF 33 6 29 31,zc 34 6 33,Io 7 (.alloc [.str [],.int .i64 0,.int .i64 0,.str [],.sl .nil 5 [],.sl .nil 6 []]),⟨none,none,.st 6 (.t 7) (.t 34),[]⟩])
 (.seq (.seq (.rg [Im 35 5,If 36 0 7,Il 37 1 36,Io 38 (.lkp (.one .s) (.bool false) false (.t 35) (.t 37)),Im 39 38,Fa 40 39 1 7,Jf 41 39 (.ld 5 true (.t 40)),Jf 42 39 (.call 69 [(.t 41)]),Jf 43 39 (.not (.t 42)),ye 44 39 43])
 (.cond (.t 44) (.seq (.rg [zh 2 false])
 .ret) .skip))
 (.rg [Im 45 5,If 46 0 7,Il 47 1 46,⟨none,none,.mup (.one .s) (.t 45) (.t 47) (.k (.bool true)),[]⟩]))))
 (.rg [zC 48 31 1,Im 31 48])))))))
 (.seq (.rg [zh 2 true])
 .ret)))))⟩
theorem ck69:za Tryz.prog 69 ir69=true:=by kernel_rfl
def ir72:zf:=⟨51,2,[.t 4],.seq (.rg [Io 4 (.mv (.k (.sl .nil 1 [])))])
 (.seq (.rg [Im 7 0,Io 8 (.bls 1 1 [.int .u8 0] [(0,(.k (.int .u8 34)))]),z1 9 1 1 7 8,Im 0 9])
 (.seq (.seq (.rg [Im 10 1,WW 11 10,zj 12 0])
 (.block 0 (.loop [0,1,11,12] (.seq (.rg [zK 13 12 11])
 (.seq (.cond (.t 13) .skip (.exit 0))
 (.seq (.block 1 (.seq (.rg [Im 14 12,Im 5 14])
 (.seq (.rg [Im 15 1,Im 16 5,Io 17 (.ixs (.t 15) (.t 16)),Im 6 17])
 (.block 2 (.seq (.rg [Im 23 6,Io 24 (.bi .eql .u8 (.t 23) (.k (.int .u8 34))),Im 25 24,Fm 26 25 6,Jf 27 25 (.bi .eql .u8 (.t 26) (.k (.int .u8 92))),ye 28 25 27,Im 22 28])
 (.cond (.t 22) (.rg [Im 29 0,Im 30 6,Io 31 (.bls 1 2 [.int .u8 0] [(0,(.k (.int .u8 92))),(1,(.t 30))]),z1 32 1 1 29 31,Im 0 32]) (.seq (.rg [Im 34 6,Io 35 (.bi .lss .u8 (.t 34) (.k (.int .u8 32))),Im 33 35])
 (.cond (.t 33) (.seq (.rg [Im 36 0,Io 37 (.apps (.t 36) (.k (.str [92,117,48,48]))),Im 0 37])
 (.reg [0,1,2,3,4,5,6,7,8,9] [Im 38 0,Im 39 6,Io 40 (.shf .shr (.t 39) (.k (.int .u64 4))),Io 41 (.ixs (.k (.str [48,49,50,51,52,53,54,55,56,57,97,98,99,100,101,102])) (.t 40)),Im 42 6,Io 43 (.bi .and .u8 (.t 42) (.k (.int .u8 15))),Io 44 (.ixs (.k (.str [48,49,50,51,52,53,54,55,56,57,97,98,99,100,101,102])) (.t 43)),Io 45 (.bls 1 2 [.int .u8 0] [(0,(.t 41)),(1,(.t 44))]),z1 46 1 1 38 45,Im 0 46])) (.rg [Im 18 0,Im 19 6,Io 20 (.bls 1 1 [.int .u8 0] [(0,(.t 19))]),z1 21 1 1 18 20,Im 0 21])))))))))
 (.rg [zC 47 12 1,Im 12 47])))))))
 (.seq (.rg [Im 48 0,Io 49 (.bls 1 1 [.int .u8 0] [(0,(.k (.int .u8 34)))]),z1 50 1 1 48 49,Im 4 50])
 .ret)))⟩
theorem ck72:za Tryz.prog 72 ir72=true:=by kernel_rfl
def ir73:zf:=⟨26,1,[.t 2],.seq (.rg [Io 2 (.mv (.k (.sl .nil 1 [])))])
 (.seq (.rg [Io 3 (.mv (.k (.sl .nil 1 [])))])
 (.seq (.seq (.rg [zj 4 1])
 (.block 0 (.loop [0,3,4] (.seq (.seq (.rg [Im 5 0,Io 6 (.isnn .p (.t 5)),Im 7 6,Jm 8 7 4,Jm 9 7 0,Jt 10 7 (.nilchk (.t 9)),Ja 11 7 0 10,Jl 12 7 1 11,Jt 13 7 (.len (.t 12)),Jt 14 7 (.bi .leq .i64 (.t 8) (.t 13)),zI 15 7 14])
 (.cond (.t 15) .skip (.exit 0)))
 (.seq (.block 1 (.seq (.rg [Im 18 0,Im 19 4,Io 20 (.call 135 [(.t 18),(.t 19)])])
 (.cond (.t 20) (.rg [Im 21 3,Im 22 4,Io 23 (.bls 1 1 [.int .i64 0] [(0,(.t 22))]),z1 24 1 8 21 23,Im 3 24]) .skip)))
 (.rg [Im 16 4,zC 17 16 1,Im 4 17]))))))
 (.seq (.rg [Im 25 3,Im 2 25])
 .ret)))⟩
theorem ck73:za Tryz.prog 73 ir73=true:=by kernel_rfl
def ir74:zf:=⟨15,1,[.t 2],.seq (.rg [zh 2 false])
 (.seq (.rg [Im 3 0,zk 4 3,If 5 9 4,Il 6 1 5,Im 7 6,Fm 8 7 0,Jf 9 7 (.nilchk (.t 8)),Fa 10 7 0 9,Fl 11 7 1 10,Jf 12 7 (.call 136 [(.t 11)]),Jf 13 7 (.bi .eql .i64 (.t 12) (.k (.int .i64 0))),ye 14 7 13,Im 2 14])
 .ret)⟩
theorem ck74:za Tryz.prog 74 ir74=true:=by kernel_rfl
def ir75:zf:=⟨10,1,[.t 2],.seq (.rg [zj 2 0])
 (.seq (.seq (.rg [Im 3 0,Io 4 (.isnil .p (.t 3))])
 (.cond (.t 4) (.seq (.rg [zj 2 0])
 .ret) .skip))
 (.seq (.rg [Im 5 0,zk 6 5,If 7 1 6,Il 8 1 7,zD 9 8,Im 2 9])
 .ret))⟩
theorem ck75:za Tryz.prog 75 ir75=true:=by kernel_rfl
def ir76:zf:=⟨24,1,[.t 2],.seq (.rg [zj 2 0])
 (.seq (.seq (.rg [Im 6 0,Io 7 (.isnil .p (.t 6))])
 (.cond (.t 7) (.seq (.rg [zj 2 0])
 .ret) .skip))
 (.seq (.rg [zj 3 0])
 (.seq (.seq (.rg [Im 8 0,zk 9 8,If 10 0 9,Il 11 1 10,zD 12 11,zj 13 0])
 (.block 0 (.loop [3,11,12,13] (.seq (.rg [zK 14 13 12])
 (.seq (.cond (.t 14) .skip (.exit 0))
 (.seq (.block 1 (.seq (.rg [zF 15 3 11 13,zc 16 3 15,Io 5 (.alloc [.int .i64 0,.str [],.sl .nil 1 []]),⟨none,none,.st 3 (.t 5) (.t 16),[]⟩])
 (.seq (.rg [If 17 0 5,Il 18 1 17,Io 19 (.bi .neq .i64 (.t 18) (.k (.int .i64 0)))])
 (.cond (.t 19) (.rg [Im 20 3,zC 21 20 1,Im 3 21]) .skip))))
 (.rg [zC 22 13 1,Im 13 22])))))))
 (.seq (.rg [Im 23 3,Im 2 23])
 .ret))))⟩
theorem ck76:za Tryz.prog 76 ir76=true:=by kernel_rfl
def ir77:zf:=⟨22,1,[],.seq (.rg [Im 2 0,zk 3 2,If 4 0 3,Il 5 1 4,Io 6 (.call 136 [(.t 5)])])
 (.block 0 (.seq (.rg [zN 8 6 1,Im 7 8])
 (.cond (.t 7) (.rg [Im 9 0,Io 10 (.call 137 [(.t 9)])]) (.seq (.rg [zN 12 6 2,Im 11 12])
 (.cond (.t 11) (.rg [Im 13 0,zk 14 13,If 15 0 14,Il 16 1 15,Io 17 (.call 138 [(.t 16)])]) (.seq (.rg [zN 19 6 3,Im 18 19])
 (.cond (.t 18) (.rg [Im 20 0,Io 21 (.call 139 [(.t 20)])]) .skip)))))))⟩
theorem ck77:za Tryz.prog 77 ir77=true:=by kernel_rfl
def ir78:zf:=⟨60,2,[],.seq (.rg [Im 9 0,zk 10 9,If 11 1 10,Il 12 1 11,Im 13 1,Io 14 (.call 140 [(.t 12),(.t 13)]),Im 8 14,zr 15 8 0,zr 16 8 1,Io 4 (.alloc [.str [],.sl .nil 1 []]),⟨none,none,.st 2 (.t 4) (.t 15),[]⟩,Im 5 16])
 (.seq (.rg [Im 17 5])
 (.block 0 (.seq (.rg [zN 19 17 2,Im 18 19])
 (.cond (.t 18) (.reg [0,1,2,3,4,5,6,7,8,9,10,11] [Im 20 0,zk 21 20,If 22 7 21,Il 23 1 22,Im 24 1,Im 25 0,zk 26 25,If 27 3 26,Il 28 1 27,zc 29 2 4,⟨some 30,none,.call 141 [(.t 28),(.t 29)],[3]⟩,⟨none,none,.mup (.one (.i .i64)) (.t 23) (.t 24) (.t 30),[]⟩]) (.seq (.rg [zN 32 17 3,Im 31 32])
 (.cond (.t 31) (.seq (.rg [If 33 1 4,Il 34 1 33,zD 35 34,zj 36 0])
 (.block 1 (.loop [0,1,4,34,35,36] (.seq (.rg [zK 37 36 35])
 (.seq (.cond (.t 37) .skip (.exit 1))
 (.seq (.block 2 (.seq (.rg [Im 38 36,zF 39 1 34 36,Il 40 1 39,Im 6 38,Im 7 40])
 (.reg [0,1,2,3,4,5,6,7,8,9,10,11,12,13,14,15,16,17] [Im 41 0,zk 42 41,If 43 2 42,Il 44 1 43,If 45 0 4,Il 46 1 45,Im 47 7,Io 48 (.bld [.str [],.str []] [(0,1,(.t 46)),(1,1,(.t 47))]),Im 49 0,zk 50 49,If 51 7 50,Il 52 1 51,Im 53 1,Io 54 (.lkp (.one (.i .i64)) (.sl .nil 6 []) false (.t 52) (.t 53)),Im 55 6,zF 56 6 54 55,zc 57 6 56,Io 58 (.call 142 [(.t 44),(.t 48),(.t 57)])])))
 (.rg [zC 59 36 1,Im 36 59]))))))) .skip))))))⟩
theorem ck78:za Tryz.prog 78 ir78=true:=by kernel_rfl
def ir80:zf:=⟨26,1,[.c 2 5 true],.seq (.rg [Io 2 (.alloc [.int .i64 0,.int .i64 0,.str [],.sl .nil 5 [],.sl .nil 6 []])])
 (.seq (.seq (.rg [Im 5 0,Io 6 (.isnil .p (.t 5)),Im 7 6,Fm 8 7 0,Jf 9 7 (.nilchk (.t 8)),Fa 10 7 0 9,Fl 11 7 1 10,Jf 12 7 (.isnil .p (.t 11)),ye 13 7 12])
 (.cond (.t 13) (.seq (.rg [Io 14 (.bld [.int .i64 0,.int .i64 0,.str [],.sl .nil 5 [],.sl .nil 6 []] []),⟨none,none,.st 5 (.t 2) (.t 14),[]⟩])
 .ret) .skip))
 (.seq (.rg [Im 16 0,zk 17 16,If 18 1 17,If 19 0 18,Il 20 1 19,Io 21 (.call 144 [(.t 20)]),Io 22 (.call 143 [(.t 21)]),Im 15 22,zr 23 15 0,zr 24 15 1,Io 3 (.alloc [.int .i64 0,.int .i64 0,.str [],.sl .nil 5 [],.sl .nil 6 []]),⟨none,none,.st 5 (.t 3) (.t 23),[]⟩,Im 4 24])
 (.seq (.rg [zc 25 5 3,⟨none,none,.st 5 (.t 2) (.t 25),[]⟩])
 .ret)))⟩
theorem ck80:za Tryz.prog 80 ir80=true:=by kernel_rfl
def ir81:zf:=⟨20,1,[.t 2],.seq (.rg [Io 2 (.mv (.k (.sl .nil 2 [])))])
 (.seq (.seq (.rg [Im 3 0,Io 4 (.isnil .p (.t 3)),Im 5 4,Fm 6 5 0,Jf 7 5 (.nilchk (.t 6)),Fa 8 5 0 7,Fl 9 5 1 8,Jf 10 5 (.isnil .p (.t 9)),ye 11 5 10])
 (.cond (.t 11) (.seq (.rg [Io 2 (.mv (.k (.sl .nil 2 [])))])
 .ret) .skip))
 (.seq (.rg [Im 12 0,zk 13 12,If 14 0 13,Il 15 1 14,zk 16 15,If 17 8 16,Il 18 1 17,Io 19 (.call 145 [(.t 18)]),Im 2 19])
 .ret))⟩
theorem ck81:za Tryz.prog 81 ir81=true:=by kernel_rfl
def ir86:zf:=⟨13,2,[],.seq (.rg [zp 2 0])
 (.reg [0,1,2,3,4,5,6,7,8,9,10] [Il 3 1 1,Il 4 1 1,zk 5 4,If 6 11 5,Il 7 1 6,zc 8 8 2,Io 9 (.bls 8 1 [.str [],.str [],.nilp,.str [],.int .i64 0,.int .i64 0,.sl .nil 7 [],.sl .nil 2 []] [(0,(.t 8))]),⟨some 10,none,.app 8 120 (.t 7) (.t 9),[0]⟩,zk 11 3,If 12 11 11,⟨none,none,.st 1 (.t 12) (.t 10),[]⟩])⟩
theorem ck86:za Tryz.prog 86 ir86=true:=by kernel_rfl
def ir87:zf:=⟨13,2,[],.seq (.rg [zp 2 0])
 (.reg [0,1,2,3,4,5,6,7,8,9,10] [Il 3 1 1,Il 4 1 1,zk 5 4,If 6 10 5,Il 7 1 6,zc 8 8 2,Io 9 (.bls 8 1 [.nilp,.str [],.str [],.str [],.sl .nil 6 [],.bool false,.sl .nil 7 [],.sl .nil 2 []] [(0,(.t 8))]),⟨some 10,none,.app 8 136 (.t 7) (.t 9),[0]⟩,zk 11 3,If 12 10 11,⟨none,none,.st 1 (.t 12) (.t 10),[]⟩])⟩
theorem ck87:za Tryz.prog 87 ir87=true:=by kernel_rfl
def ir88:zf:=⟨4,0,[.t 0],.seq (.rg [Io 0 (.mv (.k (.nilp)))])
 (.seq (.rg [Io 1 (.bld [.int .i64 0,.bool false,.int .i64 0,.int .i64 0,.str [],.sl .nil 5 [],.sl .nil 6 [],.sl .nil 1 [],.sl .nil 9 []] [(0,1,(.k (.int .i64 2)))]),Io 2 (.bld [.int .i64 0,.bool false,.int .i64 0,.int .i64 0,.str [],.sl .nil 5 [],.sl .nil 6 [],.sl .nil 1 [],.sl .nil 9 [],.sl .nil 1 []] [(0,9,(.t 1))]),Io 3 (.box (.t 2)),Im 0 3])
 .ret)⟩
theorem ck88:za Tryz.prog 88 ir88=true:=by kernel_rfl
def ir89:zf:=⟨12,2,[.t 4],.seq (.rg [zp 2 0,zp 3 1,Io 4 (.mv (.k (.str [])))])
 (.seq (.seq (.rg [If 5 0 3,Il 6 1 5,zN 7 6 1])
 (.cond (.t 7) (.seq (.rg [If 8 2 2,Il 9 1 8,Im 4 9])
 .ret) .skip))
 (.seq (.rg [If 10 1 2,Il 11 1 10,Im 4 11])
 .ret))⟩
theorem ck89:za Tryz.prog 89 ir89=true:=by kernel_rfl
def ir91:zf:=⟨7,1,[.t 2],.seq (.rg [zp 1 0,zh 2 false])
 (.seq (.rg [If 3 1 1,Il 4 1 3,Io 5 (.mkfn 147 [] [(.t 1)]),Io 6 (.call 146 [(.t 4),(.t 5)]),Im 2 6])
 .ret)⟩
theorem ck91:za Tryz.prog 91 ir91=true:=by kernel_rfl
def ir92:zf:=⟨22,2,[.t 4],.seq (.rg [zp 3 1,Io 4 (.mv (.k (.sl .nil 2 [])))])
 (.seq (.reg [0,1,2,3,4,5,6,7,8,9,10,11,12,13,14,15,16,17] [Im 5 0,zk 6 5,If 7 0 6,zc 8 3 7,Im 9 0,zk 10 9,If 11 3 10,zc 12 2 11,Im 13 0,zk 14 13,If 15 5 14,Il 16 1 15,If 17 1 3,Il 18 1 17,If 19 6 3,Il 20 1 19,Io 21 (.call 150 [(.t 8),(.t 12),(.t 16),(.t 18),(.t 20)]),Im 4 21])
 .ret)⟩
theorem ck92:za Tryz.prog 92 ir92=true:=by kernel_rfl
def ir93:zf:=⟨7,1,[],.seq (.rg [Im 2 0,Io 3 (.isnn .p (.t 2))])
 (.cond (.t 3) (.rg [Im 4 0,zk 5 4,If 6 1 5,⟨none,none,.st 1 (.t 6) (.k (.sl .nil 2 [])),[]⟩]) .skip)⟩
theorem ck93:za Tryz.prog 93 ir93=true:=by kernel_rfl
def ir94:zf:=⟨34,1,[.c 2 5 true],.seq (.rg [Io 2 (.alloc [.int .i64 0,.int .i64 0,.str [],.sl .nil 5 [],.sl .nil 6 []])])
 (.seq (.rg [Io 6 (.bld [.int .i64 0,.int .i64 0,.str [],.sl .nil 5 [],.sl .nil 6 []] [(0,1,(.k (.int .i64 6)))]),Io 3 (.alloc [.int .i64 0,.int .i64 0,.str [],.sl .nil 5 [],.sl .nil 6 []]),⟨none,none,.st 5 (.t 3) (.t 6),[]⟩])
 (.seq (.seq (.rg [Im 7 0,zD 8 7,zj 9 0])
 (.block 0 (.loop [2,3,7,8,9] (.seq (.rg [zK 10 9 8])
 (.seq (.cond (.t 10) .skip (.exit 0))
 (.seq (.block 1 (.seq (.rg [zF 11 2 7 9,zc 12 2 11,Io 5 (.alloc [.str [],.int .i64 0]),⟨none,none,.st 2 (.t 5) (.t 12),[]⟩])
 (.seq (.rg [If 13 0 5,Il 14 1 13,Io 15 (.bs .eql (.t 14) (.k (.str [])))])
 (.cond (.t 15) (.reg [0,1,2,3,4,5,6,7,8] [If 16 3 3,Il 17 1 16,If 18 1 5,Il 19 1 18,⟨some 20,none,.call 151 [(.t 19)],[1]⟩,Io 21 (.bls 5 1 [.int .i64 0,.int .i64 0,.str [],.sl .nil 5 [],.sl .nil 6 []] [(0,(.t 20))]),z1 22 5 80 17 21,If 23 3 3,⟨none,none,.st 1 (.t 23) (.t 22),[]⟩]) (.reg [0,1,2,3,4,5,6,7,8] [If 24 3 3,Il 25 1 24,If 26 0 5,Il 27 1 26,⟨some 28,none,.call 15 [(.t 27)],[1]⟩,Io 29 (.bls 5 1 [.int .i64 0,.int .i64 0,.str [],.sl .nil 5 [],.sl .nil 6 []] [(0,(.t 28))]),z1 30 5 80 25 29,If 31 3 3,⟨none,none,.st 1 (.t 31) (.t 30),[]⟩])))))
 (.rg [zC 32 9 1,Im 9 32])))))))
 (.seq (.rg [zc 33 5 3,⟨none,none,.st 5 (.t 2) (.t 33),[]⟩])
 .ret)))⟩
theorem ck94:za Tryz.prog 94 ir94=true:=by kernel_rfl
def ir95:zf:=⟨8,1,[.c 2 4 true],.seq (.rg [Io 1 (.box (.t 0)),Io 2 (.alloc [.str [],.str [],.sl .nil 6 [],.bool false])])
 (.seq (.rg [If 3 2 1,Il 4 1 3,Io 5 (.call 85 [(.t 4)]),If 6 2 1,⟨none,none,.st 1 (.t 6) (.t 5),[]⟩])
 (.seq (.rg [zc 7 4 1,⟨none,none,.st 4 (.t 2) (.t 7),[]⟩])
 .ret))⟩
theorem ck95:za Tryz.prog 95 ir95=true:=by kernel_rfl
def ir110:zf:=⟨88,1,[.c 2 5 true,.t 3],.seq (.rg [zp 1 0,Io 2 (.alloc [.int .i64 0,.str [],.str [],.str [],.str []]),zh 3 false])
 (.seq (.seq (.rg [If 11 5 1,Il 12 1 11,zD 13 12,zN 14 13 0])
 (.cond (.t 14) (.seq (.rg [If 15 0 1,Il 16 1 15,Io 17 (.bld [.int .i64 0,.str [],.str [],.str [],.str []] [(0,1,(.k (.int .i64 0))),(2,1,(.t 16))]),⟨none,none,.st 5 (.t 2) (.t 17),[]⟩,zh 3 true])
 .ret) .skip))
 (.seq (.rg [If 18 5 1,Il 19 1 18,Io 20 (.ia 2 (.t 19) (.k (.int .i64 0))),zc 21 2 20,Io 4 (.alloc [.str [],.sl .nil 6 []]),⟨none,none,.st 2 (.t 4) (.t 21),[]⟩])
 (.seq (.seq (.rg [If 22 5 1,Il 23 1 22,zD 24 23,YV 25 24 1])
 (.cond (.t 25) (.seq (.rg [Io 26 (.bld [.int .i64 0,.str [],.str [],.str [],.str []] []),⟨none,none,.st 5 (.t 2) (.t 26),[]⟩,zh 3 false])
 .ret) .skip))
 (.seq (.seq (.rg [If 27 0 4,Il 28 1 27])
 (.block 0 (.seq (.rg [Io 30 (.bs .eql (.t 28) (.k (.str [99,111,108]))),Im 29 30])
 (.cond (.t 29) (.seq (.rg [If 32 1 4,Il 33 1 32,Io 34 (.bls 1 1 [.str []] [(0,(.k (.str [110,97,109,101])))]),Io 35 (.call 173 [(.t 33),(.t 34)]),Im 31 35,zr 36 31 0,zr 37 31 1,Im 5 36,Im 6 37])
 (.seq (.rg [Im 38 6])
 (.cond (.t 38) (.seq (.rg [Im 39 5,Io 40 (.ia 1 (.t 39) (.k (.int .i64 0))),Il 41 1 40,Io 42 (.bld [.int .i64 0,.str [],.str [],.str [],.str []] [(0,1,(.k (.int .i64 0))),(2,1,(.t 41))]),⟨none,none,.st 5 (.t 2) (.t 42),[]⟩,zh 3 true])
 .ret) .skip))) (.seq (.rg [Io 44 (.bs .eql (.t 28) (.k (.str [108,105,110,107]))),Im 43 44])
 (.cond (.t 43) (.seq (.rg [If 46 1 4,Il 47 1 46,Io 48 (.bls 1 2 [.str []] [(0,(.k (.str [116,97,98,108,101]))),(1,(.k (.str [99,111,108])))]),Io 49 (.call 173 [(.t 47),(.t 48)]),Im 45 49,zr 50 45 0,zr 51 45 1,Im 7 50,Im 8 51])
 (.seq (.rg [Im 52 8])
 (.cond (.t 52) (.seq (.reg [0,1,2,3,4,5,6,7,8] [Im 53 7,Io 54 (.ia 1 (.t 53) (.k (.int .i64 0))),Il 55 1 54,Im 56 7,Io 57 (.ia 1 (.t 56) (.k (.int .i64 1))),Il 58 1 57,Io 59 (.bld [.int .i64 0,.str [],.str [],.str [],.str []] [(0,1,(.k (.int .i64 1))),(1,1,(.t 55)),(2,1,(.t 58))]),⟨none,none,.st 5 (.t 2) (.t 59),[]⟩,zh 3 true])
 .ret) .skip))) (.seq (.rg [Io 61 (.bs .eql (.t 28) (.k (.str [103,101,116]))),Im 60 61])
 (.cond (.t 60) (.seq (.rg [If 63 1 4,Il 64 1 63,Io 65 (.bls 1 2 [.str []] [(0,(.k (.str [116,97,98,108,101]))),(1,(.k (.str [97,114,103])))]),Io 66 (.call 173 [(.t 64),(.t 65)]),Im 62 66,zr 67 62 0,zr 68 62 1,Im 9 67,Im 10 68])
 (.seq (.rg [Im 69 10])
 (.cond (.t 69) (.seq (.reg [0,1,2,3,4,5,6,7,8,9,10,11] [zc 70 6 1,Im 71 9,Io 72 (.ia 1 (.t 71) (.k (.int .i64 0))),Il 73 1 72,Im 74 9,Io 75 (.ia 1 (.t 74) (.k (.int .i64 1))),Il 76 1 75,Io 77 (.call 174 [(.t 70),(.t 73),(.t 76)]),zr 78 77 0,zr 79 77 1,⟨none,none,.st 5 (.t 2) (.t 78),[]⟩,Im 3 79])
 .ret) .skip))) (.seq (.rg [Io 81 (.bs .eql (.t 28) (.k (.str [100,111]))),Im 80 81])
 (.cond (.t 80) (.seq (.rg [If 82 1 4,Il 83 1 82,Io 84 (.call 175 [(.t 83)]),zr 85 84 0,zr 86 84 1,⟨none,none,.st 5 (.t 2) (.t 85),[]⟩,Im 3 86])
 .ret) .skip))))))))))
 (.seq (.rg [Io 87 (.bld [.int .i64 0,.str [],.str [],.str [],.str []] []),⟨none,none,.st 5 (.t 2) (.t 87),[]⟩,zh 3 false])
 .ret)))))⟩
theorem ck110:za Tryz.prog 110 ir110=true:=by kernel_rfl
def ir111:zf:=⟨75,4,[.t 8],.seq (.rg [zp 4 0,zp 6 2,zh 8 false])
 (.seq (.rg [If 12 2 4,Il 13 1 12,Io 14 (.bs .neq (.t 13) (.k (.str []))),Im 15 14,Jm 16 15 1,Ja 17 15 2 4,Jl 18 15 1 17,Jt 19 15 (.bs .eql (.t 16) (.t 18)),zI 20 15 19,Im 9 20])
 (.seq (.rg [zc 21 3 4,If 22 2 6,If 23 0 22,Il 24 1 23,Io 25 (.call 176 [(.t 21),(.t 24)]),Im 10 25])
 (.seq (.reg [0,1,2,3,4,5,6,7,8,9,10,11,12,13,15,16,14,17,18,19,20,21] [zc 26 3 4,If 27 2 6,If 28 0 27,Il 29 1 28,Io 30 (.call 177 [(.t 26),(.t 29)]),Im 31 30,Ja 32 31 2 4,Jl 33 31 1 32,Jt 34 31 (.bs .neq (.t 33) (.k (.str []))),Jm 35 31 34,Jt 36 35 (.ld 3 true (.t 4)),Ja 37 35 2 6,Ja 38 35 0 37,Jl 39 35 1 38,Ja 41 35 2 4,Jl 42 35 1 41,⟨some 40,(some (35,true)),.call 178 [(.t 36),(.t 39)],[15]⟩,Jt 43 35 (.call 148 [(.t 40),(.t 42)]),Jt 44 31 (.pick (.t 35) (.t 43) (.k (.bool false))),Jt 45 31 (.not (.t 44)),zI 46 31 45,Im 11 46])
 (.seq (.seq (.rg [Im 47 3])
 (.block 0 (.seq (.rg [zN 49 47 0,Im 48 49])
 (.cond (.t 48) (.seq (.rg [Im 50 10,Im 51 50,Jm 52 51 9,Jt 53 51 (.not (.t 52)),zI 54 51 53,Im 8 54])
 .ret) (.seq (.rg [zN 56 47 3,Im 55 56])
 (.cond (.t 55) (.seq (.rg [If 57 2 6,If 58 1 57,Il 59 1 58,zN 60 59 0,Im 61 60,Jm 62 61 10,Jm 63 61 62,Fm 64 63 11,Jt 65 61 (.pick (.t 63) (.k (.bool true)) (.t 64)),zI 66 61 65,Im 67 66,Jm 68 67 9,zI 69 67 68,Im 8 69])
 .ret) .skip))))))
 (.seq (.rg [Im 70 11,Im 71 70,Jm 72 71 9,Jt 73 71 (.not (.t 72)),zI 74 71 73,Im 8 74])
 .ret)))))⟩
theorem ck111:za Tryz.prog 111 ir111=true:=by kernel_rfl
def ir113:zf:=⟨19,1,[.t 2],.seq (.rg [zp 1 0,zh 2 false])
 (.seq (.seq (.rg [If 3 0 1,Il 4 1 3])
 (.block 0 (.seq (.seq (.rg [zN 6 4 0,Im 5 6])
 (.cond (.t 5) .skip (.seq (.rg [zN 7 4 1,Im 5 7])
 (.cond (.t 5) .skip (.seq (.rg [zN 8 4 2,Im 5 8])
 (.cond (.t 5) .skip (.rg [zN 9 4 4,Im 5 9])))))))
 (.cond (.t 5) (.seq (.rg [zh 2 true])
 .ret) .skip))))
 (.seq (.rg [If 10 0 1,Il 11 1 10,zN 12 11 6,Im 13 12,Ja 14 13 3 1,Jl 15 13 1 14,Jt 16 13 (.call 180 [(.t 15),(.k (.clo 181 [] []))]),Jt 17 13 (.not (.t 16)),zI 18 13 17,Im 2 18])
 .ret))⟩
theorem ck113:za Tryz.prog 113 ir113=true:=by kernel_rfl
def ir115:zf:=⟨78,1,[.c 2 5 true],.seq (.rg [Io 2 (.alloc [.int .i64 0,.int .i64 0,.str [],.sl .nil 5 [],.sl .nil 6 []])])
 (.seq (.rg [Im 4 0,Io 5 (.call 116 [(.t 4)])])
 (.seq (.rg [Io 3 (.mv (.k (.str [])))])
 (.seq (.seq (.reg [0,1,2,3,4,5,6,7,8,9] [Im 6 0,zk 7 6,If 8 1 7,Il 9 1 8,Im 10 0,zk 11 10,If 12 0 11,Il 13 1 12,WW 14 13,zK 15 9 14])
 (.cond (.t 15) (.reg [0,1,2,3,4,5,6,7,8,9,10,11,12,13,14] [Im 16 0,zk 17 16,If 18 0 17,Il 19 1 18,Im 20 0,zk 21 20,If 22 1 21,Il 23 1 22,Im 24 0,zk 25 24,If 26 1 25,Il 27 1 26,zC 28 27 1,Io 29 (.sls (.t 19) (some (.t 23)) (some (.t 28))),Im 3 29]) .skip))
 (.seq (.block 0 (.seq (.rg [Im 31 3,Io 32 (.bs .eql (.t 31) (.k (.str [123]))),Im 33 32,Fm 34 33 3,Jf 35 33 (.bs .eql (.t 34) (.k (.str [91]))),ye 36 33 35,Im 30 36])
 (.cond (.t 30) (.seq (.rg [Im 37 0,Io 38 (.call 182 [(.t 37)])])
 (.seq (.rg [Im 39 0,zk 40 39,If 41 1 40,Il 42 1 41,zC 43 42 1,zk 44 39,If 45 1 44,⟨none,none,.st 1 (.t 45) (.t 43),[]⟩])
 (.seq (.seq (.rg [Im 46 3,Io 47 (.bs .eql (.t 46) (.k (.str [123])))])
 (.cond (.t 47) (.seq (.rg [Im 48 0,Io 49 (.call 183 [(.t 48)]),⟨none,none,.st 5 (.t 2) (.t 49),[]⟩])
 .ret) .skip))
 (.seq (.rg [Im 50 0,Io 51 (.call 184 [(.t 50)]),⟨none,none,.st 5 (.t 2) (.t 51),[]⟩])
 .ret)))) (.seq (.rg [Im 53 3,Io 54 (.bs .eql (.t 53) (.k (.str [34]))),Im 52 54])
 (.cond (.t 52) (.seq (.rg [Im 55 0,Io 56 (.call 185 [(.t 55)]),Io 57 (.call 15 [(.t 56)]),⟨none,none,.st 5 (.t 2) (.t 57),[]⟩])
 .ret) (.seq (.rg [Im 59 3,Io 60 (.bs .neq (.t 59) (.k (.str []))),Im 61 60,Jm 62 61 3,Jt 63 61 (.call 186 [(.k (.str [45,48,49,50,51,52,53,54,55,56,57])),(.t 62)]),zI 64 61 63,Im 58 64])
 (.cond (.t 58) (.seq (.rg [Im 65 0,Io 66 (.call 187 [(.t 65)]),⟨none,none,.st 5 (.t 2) (.t 66),[]⟩])
 .ret) (.seq (.rg [Im 68 0,Io 69 (.call 188 [(.t 68),(.k (.str [110,117,108,108]))]),Im 67 69])
 (.cond (.t 67) (.seq (.rg [Io 70 (.bld [.int .i64 0,.int .i64 0,.str [],.sl .nil 5 [],.sl .nil 6 []] []),⟨none,none,.st 5 (.t 2) (.t 70),[]⟩])
 .ret) (.seq (.rg [Im 72 0,Io 73 (.call 188 [(.t 72),(.k (.str [116,114,117,101]))]),Im 71 73])
 (.cond (.t 71) (.seq (.rg [Io 74 (.bld [.int .i64 0,.int .i64 0,.str [],.sl .nil 5 [],.sl .nil 6 []] [(0,1,(.k (.int .i64 1))),(1,1,(.k (.int .i64 1)))]),⟨none,none,.st 5 (.t 2) (.t 74),[]⟩])
 .ret) .skip)))))))))))
 (.seq (.rg [Im 75 0,Io 76 (.call 189 [(.t 75),(.k (.str [102,97,108,115,101]))])])
 (.seq (.rg [Io 77 (.bld [.int .i64 0,.int .i64 0,.str [],.sl .nil 5 [],.sl .nil 6 []] [(0,1,(.k (.int .i64 1)))]),⟨none,none,.st 5 (.t 2) (.t 77),[]⟩])
 .ret))))))⟩
theorem ck115:za Tryz.prog 115 ir115=true:=by kernel_rfl
def ir116:zf:=⟨32,1,[],.block 0 (.loop [0] (.seq (.seq (.reg [0,1,2,3,4,5,6,7,8,9,10,11,12,13,14,15,16,17,18,19,20,21,22] [Im 2 0,zk 3 2,If 4 1 3,Il 5 1 4,Im 6 0,zk 7 6,If 8 0 7,Il 9 1 8,WW 10 9,zK 11 5 10,Im 12 11,Jm 13 12 0,Jt 14 12 (.nilchk (.t 13)),Ja 15 12 0 14,Jl 16 12 1 15,Jm 17 12 0,Jt 18 12 (.nilchk (.t 17)),Ja 19 12 1 18,Jl 20 12 1 19,Jt 21 12 (.ixs (.t 16) (.t 20)),Jt 22 12 (.call 190 [(.k (.str [9,10,13,32])),(.t 21)]),Jt 23 12 (.bi .geq .i64 (.t 22) (.k (.int .i64 0))),zI 24 12 23])
 (.cond (.t 24) .skip (.exit 0)))
 (.block 1 (.rg [Im 25 0,zk 26 25,If 27 1 26,Il 28 1 27,zC 29 28 1,zk 30 25,If 31 1 30,⟨none,none,.st 1 (.t 31) (.t 29),[]⟩]))))⟩
theorem ck116:za Tryz.prog 116 ir116=true:=by kernel_rfl
def ir117:zf:=⟨7,2,[],.rg [Im 4 1,Io 5 (.bld [.int .i64 0] [(0,1,(.t 4))]),Io 6 (.mki 236 (.t 5)),⟨none,none,.pan (.t 6),[]⟩]⟩
theorem ck117:za Tryz.prog 117 ir117=true:=by kernel_rfl
def ir123:zf:=⟨67,3,[.t 6],.seq (.rg [zp 3 0,zp 4 1,zh 6 false])
 (.seq (.seq (.rg [Im 7 2])
 (.block 0 (.seq (.rg [zN 9 7 1,Im 8 9])
 (.cond (.t 8) (.seq (.rg [zc 10 2 4,Io 11 (.call 202 [(.t 10)]),Io 12 (.call 201 [(.t 11)]),zW 13 12,Im 6 13])
 .ret) (.seq (.rg [zN 15 7 2,Im 14 15])
 (.cond (.t 14) (.seq (.rg [If 16 0 4,Il 17 1 16,zD 18 17,YV 19 18 0,Im 20 19,Ja 21 20 0 4,Jl 22 20 1 21,Jt 23 20 (.len (.t 22)),Jt 24 20 (.bi .eql .i64 (.t 23) (.k (.int .i64 1))),Jm 25 20 24,Jf 26 25 (.ld 2 true (.t 4)),Jf 27 25 (.call 203 [(.t 26)]),Jf 28 25 (.call 148 [(.t 27),(.k (.str []))]),Jf 29 25 (.not (.t 28)),Jt 30 20 (.pick (.t 25) (.k (.bool true)) (.t 29)),zI 31 20 30,Im 6 31])
 .ret) (.seq (.rg [zN 33 7 3,Im 32 33])
 (.cond (.t 32) (.seq (.rg [If 34 2 3,Il 35 1 34,Io 36 (.bs .neq (.t 35) (.k (.str []))),Im 37 36,Fa 38 37 0 4,Fl 39 37 1 38,Jf 40 37 (.call 204 [(.t 39),(.k (.clo 205 [] []))]),Jf 41 37 (.not (.t 40)),ye 42 37 41,Im 6 42])
 .ret) (.seq (.rg [zN 44 7 4,Im 43 44])
 (.cond (.t 43) (.seq (.rg [zc 45 2 4,Io 46 (.call 206 [(.t 45)]),Io 47 (.call 201 [(.t 46)]),zW 48 47,Im 6 48])
 .ret) (.seq (.rg [zN 50 7 5,Im 49 50])
 (.cond (.t 49) (.seq (.rg [zc 51 3 3,zc 52 2 4,Io 53 (.call 207 [(.t 51),(.t 52)]),Im 6 53])
 .ret) (.seq (.rg [zN 55 7 6,Im 54 55])
 (.cond (.t 54) (.seq (.rg [zc 56 2 4,Io 57 (.call 208 [(.t 56)]),Im 6 57])
 .ret) (.seq (.rg [zN 59 7 7,Im 58 59])
 (.cond (.t 58) (.seq (.rg [zc 60 2 4,Io 61 (.call 91 [(.t 60)]),zW 62 61,Im 6 62])
 .ret) (.seq (.rg [zN 64 7 8,Im 63 64])
 (.cond (.t 63) (.seq (.rg [zc 65 2 4,Io 66 (.call 209 [(.t 65)]),Im 6 66])
 .ret) .skip))))))))))))))))))
 (.seq (.rg [zh 6 false])
 .ret))⟩
theorem ck123:za Tryz.prog 123 ir123=true:=by kernel_rfl
def ir124:zf:=⟨19,3,[.t 6],.seq (.rg [zp 3 0,zp 4 1,zp 5 2,zh 6 false])
 (.seq (.rg [zc 7 3 3,zc 8 2 4,Io 9 (.mkfn 211 [] [(.t 5),(.t 3),(.t 4)]),Io 10 (.call 210 [(.t 7),(.t 8),(.t 9)]),Im 11 10,Jl 12 11 1 5,Jt 13 11 (.bi .geq .i64 (.t 12) (.k (.int .i64 9))),zI 14 11 13,Im 15 14,Jl 16 15 1 5,Jt 17 15 (.bi .leq .i64 (.t 16) (.k (.int .i64 11))),zI 18 15 17,Im 6 18])
 .ret)⟩
theorem ck124:za Tryz.prog 124 ir124=true:=by kernel_rfl
def ir125:zf:=⟨30,3,[.t 6],.seq (.rg [zp 3 0,zp 4 1,zh 6 false])
 (.seq (.seq (.rg [Im 7 2])
 (.block 0 (.seq (.rg [zN 9 7 12,Im 8 9])
 (.cond (.t 8) (.seq (.rg [zc 10 2 4,Io 11 (.call 215 [(.t 10),(.k (.clo 216 [] []))]),Im 12 11,Jt 13 12 (.ld 3 true (.t 3)),Jt 14 12 (.ld 2 true (.t 4)),Jt 15 12 (.call 217 [(.t 13),(.t 14),(.k (.clo 216 [] []))]),zI 16 12 15,Im 6 16])
 .ret) (.seq (.rg [zN 18 7 13,Im 17 18])
 (.cond (.t 17) (.seq (.rg [zc 19 2 4,Io 20 (.call 215 [(.t 19),(.k (.clo 218 [] []))]),Im 6 20])
 .ret) (.seq (.rg [zN 22 7 14,Im 21 22])
 (.cond (.t 21) (.seq (.rg [zc 23 2 4,Io 24 (.call 215 [(.t 23),(.k (.clo 219 [] []))]),Im 25 24,Jt 26 25 (.ld 3 true (.t 3)),Jt 27 25 (.ld 2 true (.t 4)),Jt 28 25 (.call 217 [(.t 26),(.t 27),(.k (.clo 219 [] []))]),zI 29 25 28,Im 6 29])
 .ret) .skip))))))))
 (.seq (.rg [zh 6 false])
 .ret))⟩
theorem ck125:za Tryz.prog 125 ir125=true:=by kernel_rfl
def ir126:zf:=⟨23,3,[.t 6],.seq (.rg [zp 3 0,zp 4 1,zh 6 false])
 (.seq (.seq (.rg [Im 7 2])
 (.block 0 (.seq (.rg [zN 9 7 15,Im 8 9])
 (.cond (.t 8) (.seq (.rg [zc 10 3 3,zc 11 2 4,Io 12 (.call 220 [(.t 10),(.t 11),(.k (.clo 221 [] []))]),Im 6 12])
 .ret) (.seq (.rg [zN 14 7 16,Im 13 14])
 (.cond (.t 13) (.seq (.rg [zc 15 3 3,zc 16 2 4,Io 17 (.call 220 [(.t 15),(.t 16),(.k (.clo 222 [] []))]),Im 6 17])
 .ret) (.seq (.rg [zN 19 7 17,Im 18 19])
 (.cond (.t 18) (.seq (.rg [zc 20 3 3,zc 21 2 4,Io 22 (.call 220 [(.t 20),(.t 21),(.k (.clo 223 [] []))]),Im 6 22])
 .ret) .skip))))))))
 (.seq (.rg [zh 6 false])
 .ret))⟩
theorem ck126:za Tryz.prog 126 ir126=true:=by kernel_rfl
def ir127:zf:=⟨20,3,[.t 6],.seq (.rg [zp 3 0,zp 4 1,zp 5 2,zh 6 false])
 (.seq (.rg [Il 7 1 5,Io 8 (.bi .geq .i64 (.t 7) (.k (.int .i64 18))),Im 9 8,Jl 10 9 1 5,Jt 11 9 (.bi .leq .i64 (.t 10) (.k (.int .i64 21))),zI 12 9 11,Im 13 12,Ja 14 13 0 4,Jl 15 13 1 14,Jt 16 13 (.mkfn 224 [] [(.t 3),(.t 4),(.t 5)]),Jt 17 13 (.call 204 [(.t 15),(.t 16)]),Jt 18 13 (.not (.t 17)),zI 19 13 18,Im 6 19])
 .ret)⟩
theorem ck127:za Tryz.prog 127 ir127=true:=by kernel_rfl
def ir128:zf:=⟨18,3,[.t 6],.seq (.rg [zp 3 0,zp 4 1,zh 6 false])
 (.seq (.seq (.rg [Im 7 2])
 (.block 0 (.seq (.rg [zN 9 7 22,Im 8 9])
 (.cond (.t 8) (.seq (.rg [zc 10 3 3,zc 11 2 4,Io 12 (.call 226 [(.t 10),(.t 11)]),Im 6 12])
 .ret) (.seq (.rg [zN 14 7 23,Im 13 14])
 (.cond (.t 13) (.seq (.rg [zc 15 3 3,zc 16 2 4,Io 17 (.call 227 [(.t 15),(.t 16)]),Im 6 17])
 .ret) .skip))))))
 (.seq (.rg [zh 6 false])
 .ret))⟩
theorem ck128:za Tryz.prog 128 ir128=true:=by kernel_rfl
def ir129:zf:=⟨100,3,[.t 6],.seq (.rg [zp 3 0,zp 4 1,zh 6 false])
 (.seq (.seq (.rg [Im 17 2,Io 18 (.bi .neq .i64 (.t 17) (.k (.int .i64 24))),Im 19 18,Jf 20 19 (.ld 2 true (.t 4)),Jf 21 19 (.call 91 [(.t 20)]),ye 22 19 21])
 (.cond (.t 22) (.seq (.rg [zh 6 false])
 .ret) .skip))
 (.seq (.rg [zc 23 3 3,Io 24 (.mkm (.one .s)),Io 25 (.mkm (.agg [(.i .i64),(.i .i64)])),Io 26 (.mkm (.agg [(.i .i64),(.i .i64)])),Io 27 (.bld [.sl .nil 6 [],.str [],.str [],.int .i64 0,.nilm,.nilm,.nilm] [(0,3,(.t 23)),(4,1,(.t 24)),(5,1,(.t 25)),(6,1,(.t 26))]),Io 28 (.box (.t 27)),Im 7 28])
 (.seq (.rg [Io 8 (.mv (.k (.sl .nil 1 [])))])
 (.seq (.seq (.rg [If 29 1 4,Il 30 1 29,zD 31 30,zj 32 0])
 (.block 0 (.loop [3,4,7,8,30,31,32] (.seq (.rg [zK 33 32 31])
 (.seq (.cond (.t 33) .skip (.exit 0))
 (.seq (.block 1 (.seq (.rg [zF 34 4 30 32,zc 35 4 34,Io 10 (.alloc [.str [],.str [],.sl .nil 2 [],.sl .nil 7 []]),⟨none,none,.st 4 (.t 10) (.t 35),[]⟩])
 (.seq (.reg [0,1,2,3,4,5,6,7,8,9,10,11] [Im 37 7,zk 38 37,If 39 4 38,Il 40 1 39,If 41 0 10,Il 42 1 41,Io 43 (.lkp (.one .s) (.sl .nil 10 []) true (.t 40) (.t 42)),Im 36 43,zr 44 36 0,zr 45 36 1,Im 11 44,Im 12 45])
 (.seq (.rg [Im 46 12,zW 47 46])
 (.cond (.t 47) (.seq (.reg [0,1,2,3,4,5,6,7,8,9,10,11,12] [Im 48 7,zk 49 48,If 50 4 49,Il 51 1 50,If 52 0 10,Il 53 1 52,Im 54 7,If 55 1 10,Il 56 1 55,If 57 3 10,Il 58 1 57,⟨some 59,none,.call 228 [(.t 54),(.t 56),(.t 58)],[3,5]⟩,⟨none,none,.mup (.one .s) (.t 51) (.t 53) (.t 59),[]⟩])
 (.reg [0,1,2,3,4,5,6,7,8,9,10] [Im 60 8,Im 61 7,zk 62 61,If 63 4 62,Il 64 1 63,If 65 0 10,Il 66 1 65,Io 67 (.lkp (.one .s) (.sl .nil 10 []) false (.t 64) (.t 66)),Io 68 (.bls 1 1 [.sl .nil 10 []] [(0,(.t 67))]),z1 69 1 24 60 68,Im 8 69])) .skip)))))
 (.rg [zC 70 32 1,Im 32 70])))))))
 (.seq (.seq (.rg [If 71 0 4,Il 72 1 71,zD 73 72,zj 74 0])
 (.block 2 (.loop [3,7,8,72,73,74] (.seq (.rg [zK 75 74 73])
 (.seq (.cond (.t 75) .skip (.exit 2))
 (.seq (.block 3 (.seq (.rg [zF 76 5 72 74,zc 77 5 76,Io 14 (.alloc [.int .i64 0,.str [],.sl .nil 10 [],.sl .nil 2 [],.sl .nil 7 []]),⟨none,none,.st 5 (.t 14) (.t 77),[]⟩])
 (.reg [0,1,2,3,5,6,4,7,8,9,10] [Im 78 8,Im 79 7,zc 80 3 3,zc 81 5 14,If 83 4 14,Il 84 1 83,⟨some 82,none,.call 89 [(.t 80),(.t 81)],[5]⟩,Io 85 (.call 228 [(.t 79),(.t 82),(.t 84)]),Io 86 (.bls 1 1 [.sl .nil 10 []] [(0,(.t 85))]),z1 87 1 24 78 86,Im 8 87])))
 (.rg [zC 88 74 1,Im 74 88])))))))
 (.seq (.seq (.rg [Im 89 8,zD 90 89,zj 91 0])
 (.block 4 (.loop [7,89,90,91] (.seq (.rg [zK 92 91 90])
 (.seq (.cond (.t 92) .skip (.exit 4))
 (.seq (.block 5 (.seq (.rg [zF 93 1 89 91,Il 94 1 93,Im 16 94])
 (.seq (.rg [Im 95 7,Im 96 16,Io 97 (.call 229 [(.t 95),(.t 96)]),zW 98 97])
 (.cond (.t 98) (.seq (.rg [zh 6 false])
 .ret) .skip))))
 (.rg [zC 99 91 1,Im 91 99])))))))
 (.seq (.rg [zh 6 true])
 .ret)))))))⟩
theorem ck129:za Tryz.prog 129 ir129=true:=by kernel_rfl
def ir131:zf:=⟨73,3,[.c 6 5 true,.t 7,.t 8],.seq (.rg [zp 3 0,zp 4 1,Io 6 (.alloc [.int .i64 0,.int .i64 0,.str [],.sl .nil 5 [],.sl .nil 6 []]),zh 7 false,zj 8 0])
 (.seq (.seq (.rg [If 16 0 4,Il 17 1 16,Im 18 2,Io 19 (.call 59 [(.t 17),(.t 18)]),Im 15 19,zr 20 15 0,zr 21 15 1,Io 9 (.alloc [.int .i64 0,.int .i64 0,.str [],.sl .nil 5 [],.sl .nil 6 []]),⟨none,none,.st 5 (.t 9) (.t 20),[]⟩,Im 10 21])
 (.seq (.rg [Im 22 10,Im 23 22,Jt 24 23 (.ld 6 true (.t 3)),Jt 25 23 (.ld 5 true (.t 9)),Jt 26 23 (.call 234 [(.t 24),(.t 25)]),zI 27 23 26])
 (.cond (.t 27) (.seq (.rg [zc 29 6 3,If 30 1 4,zc 31 3 30,zc 32 5 9,Io 33 (.call 235 [(.t 29),(.t 31),(.t 32)]),Im 28 33,zr 34 28 0,zr 35 28 1,Io 11 (.alloc [.int .i64 0,.int .i64 0,.str [],.sl .nil 5 [],.sl .nil 6 []]),⟨none,none,.st 5 (.t 11) (.t 34),[]⟩,Im 12 35])
 (.seq (.rg [zc 36 5 11,Im 37 12,⟨none,none,.st 5 (.t 6) (.t 36),[]⟩,zh 7 true,Im 8 37])
 .ret)) .skip)))
 (.seq (.block 0 (.seq (.rg [If 39 4 4,Il 40 1 39,Im 41 40,Ja 42 41 4 3,Jl 43 41 1 42,Jt 44 41 (.not (.t 43)),Jm 45 41 44,Fa 46 45 0 3,Jf 47 45 (.ld 3 true (.t 46)),Fa 48 45 1 4,Fa 49 45 0 48,Fl 50 45 1 49,Jf 51 45 (.call 176 [(.t 47),(.t 50)]),Jt 52 41 (.pick (.t 45) (.k (.bool true)) (.t 51)),zI 53 41 52,Im 38 53])
 (.cond (.t 38) (.seq (.rg [If 55 0 3,zc 56 3 55,Io 57 (.bld [.sl .nil 6 [],.str [],.str [],.bool false,.bool false,.sl .nil 6 []] [(0,3,(.t 56)),(3,1,(.k (.bool true)))]),If 58 1 4,zc 59 3 58,If 60 5 4,zc 61 5 60,Io 62 (.call 235 [(.t 57),(.t 59),(.t 61)]),Im 54 62,zr 63 54 0,zr 64 54 1,Io 13 (.alloc [.int .i64 0,.int .i64 0,.str [],.sl .nil 5 [],.sl .nil 6 []]),⟨none,none,.st 5 (.t 13) (.t 63),[]⟩,Im 14 64])
 (.seq (.rg [zc 65 5 13,Im 66 14,⟨none,none,.st 5 (.t 6) (.t 65),[]⟩,zh 7 true,Im 8 66])
 .ret)) (.seq (.rg [If 68 1 4,zc 69 3 68,Io 70 (.call 236 [(.t 69)]),Im 67 70])
 (.cond (.t 67) (.seq (.rg [Io 71 (.bld [.int .i64 0,.int .i64 0,.str [],.sl .nil 5 [],.sl .nil 6 []] []),⟨none,none,.st 5 (.t 6) (.t 71),[]⟩,zh 7 false,zj 8 9])
 .ret) .skip)))))
 (.seq (.rg [Io 72 (.bld [.int .i64 0,.int .i64 0,.str [],.sl .nil 5 [],.sl .nil 6 []] []),⟨none,none,.st 5 (.t 6) (.t 72),[]⟩,zh 7 false,zj 8 0])
 .ret)))⟩
theorem ck131:za Tryz.prog 131 ir131=true:=by kernel_rfl
def ir135:zf:=⟨40,2,[.t 4],.seq (.rg [zh 4 false])
 (.seq (.rg [Im 5 0,Io 6 (.isnn .p (.t 5)),Im 7 6,Jm 8 7 1,Jt 9 7 (.bi .geq .i64 (.t 8) (.k (.int .i64 1))),zI 10 7 9,Im 11 10,Jm 12 11 1,Jm 13 11 0,Jt 14 11 (.nilchk (.t 13)),Ja 15 11 0 14,Jl 16 11 1 15,Jt 17 11 (.len (.t 16)),Jt 18 11 (.bi .leq .i64 (.t 12) (.t 17)),zI 19 11 18,Im 20 19,Jm 21 20 0,Jt 22 20 (.nilchk (.t 21)),Ja 23 20 0 22,Jl 24 20 1 23,Jm 25 20 1,Jt 26 20 (.bi .sub .i64 (.t 25) (.k (.int .i64 1))),Jt 27 20 (.ia 3 (.t 24) (.t 26)),Ja 28 20 0 27,Jl 29 20 1 28,Jt 30 20 (.bi .neq .i64 (.t 29) (.k (.int .i64 0))),Jm 31 20 30,Fm 32 31 0,Jf 33 31 (.nilchk (.t 32)),Fa 34 31 1 33,Fl 35 31 1 34,Jf 36 31 (.len (.t 35)),Jf 37 31 (.bi .gtr .i64 (.t 36) (.k (.int .i64 0))),Jt 38 20 (.pick (.t 31) (.k (.bool true)) (.t 37)),zI 39 20 38,Im 4 39])
 .ret)⟩
theorem ck135:za Tryz.prog 135 ir135=true:=by kernel_rfl
def ir136:zf:=⟨34,1,[.t 2],.seq (.rg [zj 2 0])
 (.seq (.block 0 (.seq (.rg [Im 4 0,Io 5 (.isnil .p (.t 4)),Im 6 5,Fm 7 6 0,Jf 8 6 (.nilchk (.t 7)),Fa 9 6 0 8,Fl 10 6 1 9,Jf 11 6 (.isnil .p (.t 10)),ye 12 6 11,Im 3 12])
 (.cond (.t 3) (.seq (.rg [zj 2 0])
 .ret) (.seq (.rg [Im 14 0,zk 15 14,If 16 10 15,Il 17 1 16,zD 18 17,YV 19 18 0,Im 13 19])
 (.cond (.t 13) (.seq (.rg [zj 2 2])
 .ret) (.seq (.rg [Im 21 0,zk 22 21,If 23 11 22,Il 24 1 23,zD 25 24,YV 26 25 0,Im 20 26])
 (.cond (.t 20) (.seq (.rg [zj 2 3])
 .ret) (.seq (.rg [Im 28 0,zk 29 28,If 30 9 29,Il 31 1 30,zD 32 31,YV 33 32 0,Im 27 33])
 (.cond (.t 27) (.seq (.rg [zj 2 1])
 .ret) .skip)))))))))
 (.seq (.rg [zj 2 0])
 .ret))⟩
theorem ck136:za Tryz.prog 136 ir136=true:=by kernel_rfl
def ir137:zf:=⟨38,1,[],.seq (.rg [Im 5 0,zk 6 5,If 7 0 6,Il 8 1 7,Io 9 (.call 240 [(.t 8)]),Im 4 9,zr 10 4 0,zr 11 4 1,Io 2 (.alloc [.str [],.str [],.str [],.str [],.sl .nil 6 []]),⟨none,none,.st 5 (.t 2) (.t 10),[]⟩,Im 3 11])
 (.seq (.seq (.rg [Im 12 3,zW 13 12])
 (.cond (.t 13) (.seq (.rg [Im 14 0,zk 15 14,If 16 0 15,Il 17 1 16,Io 18 (.bld [.int .i64 0,.int .i64 0,.str [],.sl .nil 5 [],.sl .nil 6 []] []),Io 19 (.call 241 [(.t 17),(.t 18),(.k (.int .i64 0))])])
 .ret) .skip))
 (.seq (.rg [Im 20 0,zk 21 20,If 22 2 21,Il 23 1 22,Io 24 (.call 242 [(.t 23)])])
 (.reg [0,1,2,3,4,5,6,7,8,9,10,11,12] [Im 25 0,zk 26 25,If 27 0 26,Il 28 1 27,Im 29 0,zk 30 29,If 31 3 30,Il 32 1 31,zc 33 5 2,⟨some 34,none,.call 243 [(.t 32),(.t 33)],[3]⟩,zr 35 34 0,zr 36 34 1,Io 37 (.call 241 [(.t 28),(.t 35),(.t 36)])])))⟩
theorem ck137:za Tryz.prog 137 ir137=true:=by kernel_rfl
def ir138:zf:=⟨27,1,[.t 2],.seq (.rg [zh 2 false])
 (.seq (.seq (.rg [Im 4 0,Io 5 (.call 136 [(.t 4)]),Io 6 (.bi .neq .i64 (.t 5) (.k (.int .i64 2)))])
 (.cond (.t 6) (.seq (.rg [zh 2 false])
 .ret) .skip))
 (.seq (.rg [Im 7 0,zk 8 7,If 9 10 8,Il 10 1 9,Io 11 (.ia 8 (.t 10) (.k (.int .i64 0))),zc 12 8 11,Io 3 (.alloc [.nilp,.str [],.str [],.str [],.sl .nil 6 [],.bool false,.sl .nil 7 [],.sl .nil 2 []]),⟨none,none,.st 8 (.t 3) (.t 12),[]⟩])
 (.seq (.rg [Im 13 0,Im 14 0,zk 15 14,If 16 10 15,Il 17 1 16,Io 18 (.sll 8 (.t 17) (some (.k (.int .i64 1))) none none),zk 19 13,If 20 10 19,⟨none,none,.st 1 (.t 20) (.t 18),[]⟩])
 (.seq (.reg [0,1,2,3,4,5] [Im 21 0,zk 22 21,If 23 0 22,Il 24 1 23,zc 25 8 3,Io 26 (.call 244 [(.t 24),(.t 25)])])
 (.seq (.rg [zh 2 true])
 .ret)))))⟩
theorem ck138:za Tryz.prog 138 ir138=true:=by kernel_rfl
def ir139:zf:=⟨61,1,[],.seq (.rg [Im 9 0,zk 10 9,If 11 0 10,Il 12 1 11,Io 13 (.call 245 [(.t 12)]),Im 2 13])
 (.seq (.seq (.rg [Im 14 0,zk 15 14,If 16 2 15,Il 17 1 16,Im 18 2,Io 19 (.call 246 [(.t 17),(.t 18)]),Im 3 19])
 (.seq (.rg [Im 20 3,zD 21 20,YV 22 21 0])
 (.cond (.t 22) (.seq (.reg [0,1,2,3,4,5,6,7,8,9,10,11] [Im 23 0,zk 24 23,If 25 1 24,Il 26 1 25,Im 27 0,zk 28 27,If 29 4 28,If 30 0 29,Il 31 1 30,Im 32 3,⟨some 33,none,.call 248 [(.t 31),(.t 32)],[3]⟩,Io 34 (.call 247 [(.t 26),(.t 33)])])
 .ret) .skip)))
 (.seq (.rg [Io 4 (.mv (.k (.sl .nil 6 [])))])
 (.seq (.seq (.rg [Im 35 2,zD 36 35,zj 37 0])
 (.block 0 (.loop [0,4,35,36,37] (.seq (.rg [zK 38 37 36])
 (.seq (.cond (.t 38) .skip (.exit 0))
 (.seq (.block 1 (.seq (.rg [zF 39 2 35 37,zc 40 2 39,Io 6 (.alloc [.str [],.str []]),⟨none,none,.st 2 (.t 6) (.t 40),[]⟩])
 (.seq (.reg [0,1,2,3,4,5,6,7,8,9,10,11] [Im 42 0,zk 43 42,If 44 2 43,Il 45 1 44,zc 46 2 6,Io 47 (.call 249 [(.t 45),(.t 46)]),Im 41 47,zr 48 41 0,zr 49 41 1,Io 7 (.alloc [.str [],.str [],.sl .nil 6 [],.bool false,.bool false,.int .i64 0]),⟨none,none,.st 6 (.t 7) (.t 48),[]⟩,Im 8 49])
 (.rg [Im 50 4,zc 51 6 7,Io 52 (.bls 6 1 [.str [],.str [],.sl .nil 6 [],.bool false,.bool false,.int .i64 0] [(0,(.t 51))]),z1 53 6 80 50 52,Im 4 53]))))
 (.rg [zC 54 37 1,Im 37 54])))))))
 (.rg [Im 55 0,zk 56 55,If 57 0 56,Il 58 1 57,Im 59 4,Io 60 (.call 250 [(.t 58),(.t 59)])]))))⟩
theorem ck139:za Tryz.prog 139 ir139=true:=by kernel_rfl
def ir140:zf:=⟨64,2,[.c 4 2 true,.t 5],.seq (.rg [Io 4 (.alloc [.str [],.sl .nil 1 []]),zj 5 0])
 (.seq (.seq (.rg [Im 8 0,Im 9 1,Io 10 (.call 135 [(.t 8),(.t 9)]),zW 11 10])
 (.cond (.t 11) (.seq (.rg [Io 12 (.bld [.str [],.sl .nil 1 []] []),⟨none,none,.st 2 (.t 4) (.t 12),[]⟩,zj 5 0])
 .ret) .skip))
 (.seq (.rg [Im 13 0,zk 14 13,If 15 0 14,Il 16 1 15,Im 17 1,VA 18 17 1,zF 19 3 16 18,Im 6 19])
 (.seq (.seq (.rg [Im 20 6,zk 21 20,If 22 0 21,Il 23 1 22,zN 24 23 0])
 (.cond (.t 24) (.seq (.rg [Im 25 6,Im 26 0,zk 27 26,If 28 1 27,Il 29 1 28,Io 30 (.ia 2 (.t 29) (.k (.int .i64 0))),zc 31 2 30,zk 32 25,If 33 1 32,⟨none,none,.st 2 (.t 33) (.t 31),[]⟩])
 (.rg [Im 34 0,Im 35 0,zk 36 35,If 37 1 36,Il 38 1 37,Io 39 (.sll 2 (.t 38) (some (.k (.int .i64 1))) none none),zk 40 34,If 41 1 40,⟨none,none,.st 1 (.t 41) (.t 39),[]⟩])) .skip))
 (.seq (.rg [Im 42 6,zk 43 42,If 44 0 43,Il 45 1 44,zC 46 45 1,zk 47 42,If 48 0 47,⟨none,none,.st 1 (.t 48) (.t 46),[]⟩])
 (.seq (.rg [Im 49 6,zk 50 49,If 51 0 50,Il 52 1 51,Im 7 52])
 (.seq (.seq (.rg [Im 53 7,YV 54 53 2])
 (.cond (.t 54) (.rg [Im 55 6,zk 56 55,If 57 0 56,⟨none,none,.st 1 (.t 57) (.k (.int .i64 0)),[]⟩]) .skip))
 (.seq (.rg [Im 58 6,zk 59 58,If 60 1 59,zc 61 2 60,Io 62 (.call 251 [(.t 61)]),Im 63 7,⟨none,none,.st 2 (.t 4) (.t 62),[]⟩,Im 5 63])
 .ret)))))))⟩
theorem ck140:za Tryz.prog 140 ir140=true:=by kernel_rfl
def ir141:zf:=⟨43,2,[.t 4],.seq (.rg [zp 3 1,Io 4 (.mv (.k (.sl .nil 6 [])))])
 (.seq (.seq (.rg [Im 8 0,Io 9 (.isnil .p (.t 8))])
 (.cond (.t 9) (.seq (.rg [Io 4 (.mv (.k (.sl .nil 6 [])))])
 .ret) .skip))
 (.seq (.rg [Io 5 (.mv (.k (.sl .nil 6 [])))])
 (.seq (.seq (.rg [If 10 1 3,Il 11 1 10,zD 12 11,zj 13 0])
 (.block 0 (.loop [0,3,5,11,12,13] (.seq (.rg [zK 14 13 12])
 (.seq (.cond (.t 14) .skip (.exit 0))
 (.seq (.block 1 (.seq (.rg [zF 15 1 11 13,Il 16 1 15,Im 7 16])
 (.reg [0,1,2,3,4,5,6,7,8,9,10,11,12] [Im 17 5,Im 18 0,zk 19 18,If 20 0 19,Il 21 1 20,If 22 0 3,Il 23 1 22,Im 24 7,Io 25 (.bld [.str [],.str []] [(0,1,(.t 23)),(1,1,(.t 24))]),Io 26 (.call 252 [(.t 21),(.t 25)]),Io 27 (.bls 6 1 [.str [],.str [],.sl .nil 6 [],.bool false,.bool false,.int .i64 0] [(0,(.t 26))]),z1 28 6 80 17 27,Im 5 28])))
 (.rg [zC 29 13 1,Im 13 29])))))))
 (.seq (.reg [0,1,2,3,4,5,6,7,8,9,10,11,12] [Im 30 0,Im 31 0,zk 32 31,If 33 1 32,Il 34 1 33,zc 35 2 3,⟨some 36,none,.call 44 [(.t 35)],[4]⟩,Io 37 (.bld [.str [],.sl .nil 1 [],.str [],.str [],.str [],.str [],.sl .nil 6 []] [(0,2,(.t 36))]),Io 38 (.bls 7 1 [.str [],.sl .nil 1 [],.str [],.str [],.str [],.str [],.sl .nil 6 []] [(0,(.t 37))]),z1 39 7 128 34 38,zk 40 30,If 41 1 40,⟨none,none,.st 1 (.t 41) (.t 39),[]⟩])
 (.seq (.rg [Im 42 5,Im 4 42])
 .ret)))))⟩
theorem ck141:za Tryz.prog 141 ir141=true:=by kernel_rfl
def ir142:zf:=⟨22,3,[],.seq (.rg [zp 4 1,zp 5 2])
 (.seq (.rg [Im 6 0,Io 7 (.isnn .p (.t 6)),Im 8 7,Jm 9 8 0,Jt 10 8 (.nilchk (.t 9)),Ja 11 8 0 10,Jl 12 8 1 11,Jt 13 8 (.isnn .m (.t 12)),zI 14 8 13])
 (.cond (.t 14) (.reg [0,1,2,3,4,5,6,7] [Im 15 0,zk 16 15,If 17 0 16,Il 18 1 17,zc 19 2 4,zc 20 6 5,⟨some 21,none,.call 253 [(.t 20)],[3,4]⟩,⟨none,none,.mup (.agg [.s,.s]) (.t 18) (.t 19) (.t 21),[]⟩]) .skip))⟩
theorem ck142:za Tryz.prog 142 ir142=true:=by kernel_rfl
def ir143:zf:=⟨16,1,[.c 2 5 true,.t 3],.seq (.rg [zp 1 0,Io 2 (.alloc [.int .i64 0,.int .i64 0,.str [],.sl .nil 5 [],.sl .nil 6 []]),zh 3 false])
 (.seq (.rg [zc 5 9 1,Io 6 (.call 254 [(.t 5)]),Io 4 (.alloc [.int .i64 0,.int .i64 0,.str [],.sl .nil 5 [],.sl .nil 6 []]),⟨none,none,.st 5 (.t 4) (.t 6),[]⟩])
 (.seq (.seq (.rg [If 7 1 1,Il 8 1 7,Im 9 8,Ja 10 9 0 4,Jl 11 9 1 10,Jt 12 9 (.bi .eql .i64 (.t 11) (.k (.int .i64 0))),zI 13 9 12])
 (.cond (.t 13) (.seq (.rg [Io 14 (.bld [.int .i64 0,.int .i64 0,.str [],.sl .nil 5 [],.sl .nil 6 []] []),⟨none,none,.st 5 (.t 2) (.t 14),[]⟩,zh 3 false])
 .ret) .skip))
 (.seq (.rg [zc 15 5 4,⟨none,none,.st 5 (.t 2) (.t 15),[]⟩,zh 3 true])
 .ret)))⟩
theorem ck143:za Tryz.prog 143 ir143=true:=by kernel_rfl
def ir144:zf:=⟨28,1,[.c 2 9 true],.seq (.rg [Io 2 (.alloc [.int .i64 0,.bool false,.int .i64 0,.int .i64 0,.str [],.sl .nil 5 [],.sl .nil 6 [],.sl .nil 1 [],.sl .nil 9 []])])
 (.seq (.rg [Im 6 0,zk 7 6,If 8 0 7,zc 9 9 8,Io 3 (.alloc [.int .i64 0,.bool false,.int .i64 0,.int .i64 0,.str [],.sl .nil 5 [],.sl .nil 6 [],.sl .nil 1 [],.sl .nil 9 []]),⟨none,none,.st 9 (.t 3) (.t 9),[]⟩])
 (.seq (.seq (.rg [Im 10 0,zk 11 10,If 12 9 11,Il 13 1 12,zD 14 13,zj 15 0])
 (.block 0 (.loop [2,3,13,14,15] (.seq (.rg [zK 16 15 14])
 (.seq (.cond (.t 16) .skip (.exit 0))
 (.seq (.block 1 (.seq (.rg [zF 17 1 13 15,Il 18 1 17,Im 5 18])
 (.reg [0,1,2,3,4,5,6,7] [If 19 8 3,Il 20 1 19,Im 21 5,⟨some 22,none,.call 144 [(.t 21)],[1]⟩,Io 23 (.bls 9 1 [.int .i64 0,.bool false,.int .i64 0,.int .i64 0,.str [],.sl .nil 5 [],.sl .nil 6 [],.sl .nil 1 [],.sl .nil 9 []] [(0,(.t 22))]),z1 24 9 144 20 23,If 25 8 3,⟨none,none,.st 1 (.t 25) (.t 24),[]⟩])))
 (.rg [zC 26 15 1,Im 15 26])))))))
 (.seq (.rg [zc 27 9 3,⟨none,none,.st 9 (.t 2) (.t 27),[]⟩])
 .ret)))⟩
theorem ck144:za Tryz.prog 144 ir144=true:=by kernel_rfl
def ir145:zf:=⟨24,1,[.t 2],.seq (.rg [Io 2 (.mv (.k (.sl .nil 2 [])))])
 (.seq (.rg [Io 3 (.mv (.k (.sl .nil 2 [])))])
 (.seq (.seq (.rg [Im 6 0,zD 7 6,zj 8 0])
 (.block 0 (.loop [3,6,7,8] (.seq (.rg [zK 9 8 7])
 (.seq (.cond (.t 9) .skip (.exit 0))
 (.seq (.block 1 (.seq (.rg [zF 10 2 6 8,zc 11 2 10,Io 5 (.alloc [.sl .nil 2 [],.int .i64 0]),⟨none,none,.st 2 (.t 5) (.t 11),[]⟩])
 (.seq (.rg [If 12 0 5,Il 13 1 12,Io 14 (.call 255 [(.t 13)]),If 15 0 5,⟨none,none,.st 1 (.t 15) (.t 14),[]⟩])
 (.rg [Im 16 3,zc 17 2 5,Io 18 (.bls 2 1 [.sl .nil 2 [],.int .i64 0] [(0,(.t 17))]),z1 19 2 32 16 18,Im 3 19]))))
 (.rg [zC 20 8 1,Im 8 20])))))))
 (.seq (.rg [Im 21 3,Io 22 (.call 256 [(.t 21),(.k (.clo 257 [] []))])])
 (.seq (.rg [Im 23 3,Im 2 23])
 .ret))))⟩
theorem ck145:za Tryz.prog 145 ir145=true:=by kernel_rfl
def ir147:zf:=⟨11,2,[.t 3],.seq (.rg [zp 2 0,zh 3 false])
 (.seq (.reg [0,1,2,4,5,3,6,7] [zc 4 2 1,If 5 3 2,Il 6 1 5,If 8 0 2,Il 9 1 8,⟨some 7,none,.call 149 [(.t 4),(.t 6)],[4]⟩,Io 10 (.call 148 [(.t 7),(.t 9)]),Im 3 10])
 .ret)⟩
theorem ck147:za Tryz.prog 147 ir147=true:=by kernel_rfl
def ir149:zf:=⟨33,2,[.t 4],.seq (.rg [zp 2 0,Io 4 (.mv (.k (.sl .nil 1 [])))])
 (.scope (.seq (.rg [Im 9 1,Io 10 (.call 262 [(.k (.sl .nil 1 [])),(.t 9)]),Im 5 10])
 (.seq .skip
 (.seq (.seq (.rg [zj 6 0])
 (.block 0 (.loop [2,5,6] (.seq (.block 1 (.seq (.seq (.rg [Im 13 6,Im 14 5,zD 15 14,Io 16 (.bi .geq .i64 (.t 13) (.t 15))])
 (.cond (.t 16) (.exit 0) .skip))
 (.seq (.reg [0,1,2,3,4,5,6,7,8,9,10,11] [zc 18 2 2,Im 19 5,Im 20 6,zF 21 1 19 20,Il 22 1 21,Io 23 (.call 263 [(.t 18),(.t 22)]),Im 17 23,zr 24 17 0,zr 25 17 1,Io 7 (.alloc [.str [],.str [],.sl .nil 2 [],.sl .nil 7 []]),⟨none,none,.st 4 (.t 7) (.t 24),[]⟩,Im 8 25])
 (.seq (.seq (.rg [Im 26 8,zW 27 26])
 (.cond (.t 27) (.exit 1) .skip))
 (.rg [Im 28 5,If 29 3 7,Il 30 1 29,Io 31 (.call 262 [(.t 28),(.t 30)]),Im 5 31])))))
 (.rg [Im 11 6,zC 12 11 1,Im 6 12])))))
 (.seq (.rg [Im 32 5,Im 4 32])
 .ret)))))⟩
theorem ck149:za Tryz.prog 149 ir149=true:=by kernel_rfl
def ir150:zf:=⟨26,5,[.t 10],.seq (.rg [zp 5 0,zp 6 1,Io 10 (.mv (.k (.sl .nil 2 [])))])
 (.seq (.rg [zc 12 3 5,zc 13 2 6,Im 14 2,Im 15 3,Io 16 (.mkm (.one .s)),Io 17 (.bld [.sl .nil 6 [],.str [],.str [],.sl .nil 5 [],.sl .nil 4 [],.sl .nil 6 [],.str [],.sl .nil 2 [],.nilm] [(0,3,(.t 12)),(3,2,(.t 13)),(5,1,(.t 14)),(6,1,(.t 15)),(8,1,(.t 16))]),Io 18 (.box (.t 17)),Im 11 18])
 (.seq (.rg [Im 19 11,Im 20 4,Io 21 (.call 264 [(.t 19),(.t 20)])])
 (.seq (.rg [Im 22 11,zk 23 22,If 24 7 23,Il 25 1 24,Io 10 (.frz 2 (.t 25))])
 .ret)))⟩
theorem ck150:za Tryz.prog 150 ir150=true:=by kernel_rfl
def ir173:zf:=⟨52,2,[.t 4,.t 5],.seq (.rg [Io 4 (.mv (.k (.sl .nil 1 []))),zh 5 false])
 (.scope (.seq (.seq (.rg [Im 11 0,zD 12 11,Im 13 1,zD 14 13,Io 15 (.bi .neq .i64 (.t 12) (.t 14))])
 (.cond (.t 15) (.seq (.rg [Io 4 (.mv (.k (.sl .nil 1 []))),zh 5 false])
 .ret) .skip))
 (.seq (.rg [Io 6 (.mv (.k (.sl .nil 1 [])))])
 (.seq .skip
 (.seq (.seq (.rg [Im 16 1,zD 17 16,zj 18 0])
 (.block 0 (.loop [0,1,6,16,17,18] (.seq (.rg [zK 19 18 17])
 (.seq (.cond (.t 19) .skip (.exit 0))
 (.seq (.block 1 (.seq (.rg [zF 20 1 16 18,Il 21 1 20,Im 8 21])
 (.seq (.rg [Im 23 8,Im 24 0,Io 25 (.call 59 [(.t 23),(.t 24)]),Im 22 25,zr 26 22 0,zr 27 22 1,Io 9 (.alloc [.int .i64 0,.int .i64 0,.str [],.sl .nil 5 [],.sl .nil 6 []]),⟨none,none,.st 5 (.t 9) (.t 26),[]⟩,Im 10 27])
 (.seq (.seq (.rg [Im 28 10,zW 29 28,Im 30 29,Fa 31 30 0 9,Fl 32 30 1 31,Jf 33 30 (.bi .neq .i64 (.t 32) (.k (.int .i64 4))),ye 34 30 33,Im 35 34,Fa 36 35 2 9,Fl 37 35 1 36,Jf 38 35 (.bs .eql (.t 37) (.k (.str []))),ye 39 35 38])
 (.cond (.t 39) (.seq (.rg [Io 6 (.mv (.k (.sl .nil 1 [])))])
 (.exit 0)) .skip))
 (.seq (.rg [Im 40 6,If 41 2 9,Il 42 1 41,Io 43 (.bls 1 1 [.str []] [(0,(.t 42))]),z1 44 1 16 40 43,Im 6 44])
 (.exit 1))))))
 (.rg [zC 45 18 1,Im 18 45])))))))
 (.seq (.rg [Im 46 6,Im 47 6,zD 48 47,Im 49 1,zD 50 49,Io 51 (.bi .eql .i64 (.t 48) (.t 50)),Im 4 46,Im 5 51])
 .ret))))))⟩
theorem ck173:za Tryz.prog 173 ir173=true:=by kernel_rfl
def ir174:zf:=⟨44,3,[.c 6 5 true,.t 7],.seq (.rg [zp 3 0,Io 6 (.alloc [.int .i64 0,.str [],.str [],.str [],.str []]),zh 7 false])
 (.seq (.rg [If 11 1 3,Il 12 1 11,Im 13 2,Io 14 (.call 313 [(.t 12),(.t 13)]),Im 10 14,zr 15 10 0,zr 16 10 1,Io 8 (.alloc [.str [],.str [],.int .i64 0,.int .i64 0,.bool false,.int .i64 0,.int .i64 0,.str [],.sl .nil 5 [],.sl .nil 6 []]),⟨none,none,.st 10 (.t 8) (.t 15),[]⟩,Im 9 16])
 (.seq (.seq (.rg [Im 17 9,zW 18 17,Im 19 18,Fa 20 19 1 8,Fa 21 19 0 20,Fl 22 19 1 21,Jf 23 19 (.bs .neq (.t 22) (.k (.str [73,68]))),Fm 24 19 23,Ja 25 24 1 8,Ja 26 24 0 25,Jl 27 24 1 26,Jt 28 24 (.bs .neq (.t 27) (.k (.str [83,116,114,105,110,103]))),Jf 29 19 (.pick (.t 24) (.t 28) (.k (.bool false))),ye 30 19 29,Im 31 30,Fa 32 31 1 8,Fa 33 31 1 32,Fl 34 31 1 33,Fa 35 31 2 3,Fa 36 31 1 35,Fl 37 31 1 36,Jf 38 31 (.bi .neq .i64 (.t 34) (.t 37)),ye 39 31 38])
 (.cond (.t 39) (.seq (.rg [Io 40 (.bld [.int .i64 0,.str [],.str [],.str [],.str []] []),⟨none,none,.st 5 (.t 6) (.t 40),[]⟩,zh 7 false])
 .ret) .skip))
 (.seq (.rg [Im 41 1,Im 42 2,Io 43 (.bld [.int .i64 0,.str [],.str [],.str [],.str []] [(0,1,(.k (.int .i64 2))),(1,1,(.t 41)),(3,1,(.t 42))]),⟨none,none,.st 5 (.t 6) (.t 43),[]⟩,zh 7 true])
 .ret)))⟩
theorem ck174:za Tryz.prog 174 ir174=true:=by kernel_rfl
def ir175:zf:=⟨61,1,[.c 2 5 true,.t 3],.seq (.rg [Io 2 (.alloc [.int .i64 0,.str [],.str [],.str [],.str []]),zh 3 false])
 (.seq (.seq (.rg [Im 9 0,Io 10 (.bls 1 3 [.str []] [(0,(.k (.str [99,109,100]))),(1,(.k (.str [116,97,98,108,101]))),(2,(.k (.str [99,111,108])))]),Io 11 (.call 173 [(.t 9),(.t 10)]),Im 8 11,zr 12 8 0,zr 13 8 1,Im 4 12,Im 5 13])
 (.seq (.rg [Im 14 5])
 (.cond (.t 14) (.seq (.reg [0,1,2,3,4,5,6,7,8,9,10,11,12,13,14,15] [Im 15 4,Io 16 (.ia 1 (.t 15) (.k (.int .i64 0))),Il 17 1 16,Im 18 4,Io 19 (.ia 1 (.t 18) (.k (.int .i64 1))),Il 20 1 19,Im 21 4,Io 22 (.ia 1 (.t 21) (.k (.int .i64 2))),Il 23 1 22,Io 24 (.bld [.int .i64 0,.str [],.str [],.str [],.str []] [(0,1,(.k (.int .i64 3))),(4,1,(.t 17)),(1,1,(.t 20)),(2,1,(.t 23))]),Im 25 4,Io 26 (.ia 1 (.t 25) (.k (.int .i64 0))),Il 27 1 26,Io 28 (.bs .eql (.t 27) (.k (.str [97,100,100]))),⟨none,none,.st 5 (.t 2) (.t 24),[12]⟩,Im 3 28])
 .ret) .skip)))
 (.seq (.rg [Im 30 0,Io 31 (.bls 1 2 [.str []] [(0,(.k (.str [99,109,100]))),(1,(.k (.str [116,97,98,108,101])))]),Io 32 (.call 173 [(.t 30),(.t 31)]),Im 29 32,zr 33 29 0,zr 34 29 1,Im 6 33,Im 7 34])
 (.seq (.seq (.rg [Im 35 7,zW 36 35])
 (.cond (.t 36) (.seq (.rg [Io 37 (.bld [.int .i64 0,.str [],.str [],.str [],.str []] []),⟨none,none,.st 5 (.t 2) (.t 37),[]⟩,zh 3 false])
 .ret) .skip))
 (.seq (.reg [0,1,2,3,4,5,6,7,8,9,10,11,12,13,14,15,16,17,18,19,20,21,22,23,24] [Im 38 6,Io 39 (.ia 1 (.t 38) (.k (.int .i64 0))),Il 40 1 39,Im 41 6,Io 42 (.ia 1 (.t 41) (.k (.int .i64 1))),Il 43 1 42,Io 44 (.bld [.int .i64 0,.str [],.str [],.str [],.str []] [(0,1,(.k (.int .i64 3))),(4,1,(.t 40)),(1,1,(.t 43))]),Im 45 6,Io 46 (.ia 1 (.t 45) (.k (.int .i64 0))),Il 47 1 46,Io 48 (.bs .eql (.t 47) (.k (.str [112,117,116]))),Im 49 48,Fm 50 49 6,Jf 51 49 (.ia 1 (.t 50) (.k (.int .i64 0))),Fl 52 49 1 51,Jf 53 49 (.bs .eql (.t 52) (.k (.str [99,117,116]))),ye 54 49 53,Im 55 54,Fm 56 55 6,Jf 57 55 (.ia 1 (.t 56) (.k (.int .i64 0))),Fl 58 55 1 57,Jf 59 55 (.bs .eql (.t 58) (.k (.str [98,117,114,110]))),ye 60 55 59,⟨none,none,.st 5 (.t 2) (.t 44),[20]⟩,Im 3 60])
 .ret))))⟩
theorem ck175:za Tryz.prog 175 ir175=true:=by kernel_rfl
def ir181:zf:=⟨6,1,[.t 2],.seq (.rg [zp 1 0,zh 2 false])
 (.seq (.rg [zc 3 5 1,Io 4 (.call 113 [(.t 3)]),zW 5 4,Im 2 5])
 .ret)⟩
theorem ck181:za Tryz.prog 181 ir181=true:=by kernel_rfl
def ir182:zf:=⟨16,1,[],.seq (.seq (.rg [Im 2 0,zk 3 2,If 4 2 3,Il 5 1 4,zN 6 5 16])
 (.cond (.t 6) (.rg [Im 7 0,Io 8 (.call 117 [(.t 7),(.k (.int .i64 4))])]) .skip))
 (.rg [Im 9 0,zk 10 9,If 11 2 10,Il 12 1 11,zC 13 12 1,zk 14 9,If 15 2 14,⟨none,none,.st 1 (.t 15) (.t 13),[]⟩])⟩
theorem ck182:za Tryz.prog 182 ir182=true:=by kernel_rfl
def ir183:zf:=⟨31,1,[.c 2 5 true],.seq (.rg [Io 2 (.alloc [.int .i64 0,.int .i64 0,.str [],.sl .nil 5 [],.sl .nil 6 []])])
 (.seq (.rg [Io 4 (.bld [.int .i64 0,.int .i64 0,.str [],.sl .nil 5 [],.sl .nil 6 []] [(0,1,(.k (.int .i64 7)))]),Io 3 (.alloc [.int .i64 0,.int .i64 0,.str [],.sl .nil 5 [],.sl .nil 6 []]),⟨none,none,.st 5 (.t 3) (.t 4),[]⟩])
 (.seq (.seq (.rg [Im 5 0,Io 6 (.call 188 [(.t 5),(.k (.str [125]))]),zW 7 6])
 (.cond (.t 7) (.seq (.rg [Im 8 0,If 9 4 3,Il 10 1 9,Io 11 (.call 316 [(.t 8),(.t 10)]),If 12 4 3,⟨none,none,.st 1 (.t 12) (.t 11),[]⟩])
 (.block 0 (.loop [0,2,3] (.seq (.seq (.rg [Im 13 0,Io 14 (.call 188 [(.t 13),(.k (.str [125]))]),zW 15 14])
 (.cond (.t 15) .skip (.exit 0)))
 (.block 1 (.seq (.rg [Im 16 0,Io 17 (.call 189 [(.t 16),(.k (.str [44]))])])
 (.rg [Im 18 0,If 19 4 3,Il 20 1 19,Io 21 (.call 316 [(.t 18),(.t 20)]),If 22 4 3,⟨none,none,.st 1 (.t 22) (.t 21),[]⟩]))))))) .skip))
 (.seq (.rg [Im 23 0,zk 24 23,If 25 2 24,Il 26 1 25,VA 27 26 1,zk 28 23,If 29 2 28,⟨none,none,.st 1 (.t 29) (.t 27),[]⟩])
 (.seq (.rg [zc 30 5 3,⟨none,none,.st 5 (.t 2) (.t 30),[]⟩])
 .ret))))⟩
theorem ck183:za Tryz.prog 183 ir183=true:=by kernel_rfl
def ir184:zf:=⟨35,1,[.c 2 5 true],.seq (.rg [Io 2 (.alloc [.int .i64 0,.int .i64 0,.str [],.sl .nil 5 [],.sl .nil 6 []])])
 (.seq (.rg [Io 4 (.bld [.int .i64 0,.int .i64 0,.str [],.sl .nil 5 [],.sl .nil 6 []] [(0,1,(.k (.int .i64 6)))]),Io 3 (.alloc [.int .i64 0,.int .i64 0,.str [],.sl .nil 5 [],.sl .nil 6 []]),⟨none,none,.st 5 (.t 3) (.t 4),[]⟩])
 (.seq (.seq (.rg [Im 5 0,Io 6 (.call 188 [(.t 5),(.k (.str [93]))]),zW 7 6])
 (.cond (.t 7) (.seq (.reg [0,1,2,3,4,5,6,7] [If 8 3 3,Il 9 1 8,Im 10 0,⟨some 11,none,.call 115 [(.t 10)],[1]⟩,Io 12 (.bls 5 1 [.int .i64 0,.int .i64 0,.str [],.sl .nil 5 [],.sl .nil 6 []] [(0,(.t 11))]),z1 13 5 80 9 12,If 14 3 3,⟨none,none,.st 1 (.t 14) (.t 13),[]⟩])
 (.block 0 (.loop [0,2,3] (.seq (.seq (.rg [Im 15 0,Io 16 (.call 188 [(.t 15),(.k (.str [93]))]),zW 17 16])
 (.cond (.t 17) .skip (.exit 0)))
 (.block 1 (.seq (.rg [Im 18 0,Io 19 (.call 189 [(.t 18),(.k (.str [44]))])])
 (.reg [0,1,2,3,4,5,6,7] [If 20 3 3,Il 21 1 20,Im 22 0,⟨some 23,none,.call 115 [(.t 22)],[1]⟩,Io 24 (.bls 5 1 [.int .i64 0,.int .i64 0,.str [],.sl .nil 5 [],.sl .nil 6 []] [(0,(.t 23))]),z1 25 5 80 21 24,If 26 3 3,⟨none,none,.st 1 (.t 26) (.t 25),[]⟩]))))))) .skip))
 (.seq (.rg [Im 27 0,zk 28 27,If 29 2 28,Il 30 1 29,VA 31 30 1,zk 32 27,If 33 2 32,⟨none,none,.st 1 (.t 33) (.t 31),[]⟩])
 (.seq (.rg [zc 34 5 3,⟨none,none,.st 5 (.t 2) (.t 34),[]⟩])
 .ret))))⟩
theorem ck184:za Tryz.prog 184 ir184=true:=by kernel_rfl
def ir185:zf:=⟨46,1,[.t 2],.seq (.rg [Io 2 (.mv (.k (.str [])))])
 (.seq (.rg [Im 5 0,Io 6 (.call 116 [(.t 5)])])
 (.seq (.seq (.reg [0,1,2,3,4,5,6,7,8,9,10] [Im 7 0,zk 8 7,If 9 0 8,Il 10 1 9,Im 11 0,zk 12 11,If 13 1 12,Il 14 1 13,Io 15 (.sls (.t 10) (some (.t 14)) none),Io 16 (.call 267 [(.t 15),(.k (.str [34]))]),zW 17 16])
 (.cond (.t 17) (.rg [Im 18 0,Io 19 (.call 117 [(.t 18),(.k (.int .i64 2))])]) .skip))
 (.seq (.reg [0,1,2,3,4,5,6,7,8,9,10,11,12,13,14] [Im 21 0,zk 22 21,If 23 0 22,Il 24 1 23,Im 25 0,zk 26 25,If 27 1 26,Il 28 1 27,Io 29 (.sls (.t 24) (some (.t 28)) none),Io 30 (.call 270 [(.t 29),(.k (.clo 317 [] []))]),Im 20 30,zr 31 20 0,zr 32 20 1,Im 3 31,Im 4 32])
 (.seq (.seq (.rg [Im 33 4,zN 34 33 0])
 (.cond (.t 34) (.rg [Im 35 0,Io 36 (.call 117 [(.t 35),(.k (.int .i64 2))])]) .skip))
 (.seq (.rg [Im 37 0,zk 38 37,If 39 1 38,Il 40 1 39,Im 41 4,XM 42 40 41,zk 43 37,If 44 1 43,⟨none,none,.st 1 (.t 44) (.t 42),[]⟩])
 (.seq (.rg [Im 45 3,Im 2 45])
 .ret))))))⟩
theorem ck185:za Tryz.prog 185 ir185=true:=by kernel_rfl
def ir187:zf:=⟨66,1,[.c 2 5 true],.seq (.rg [Io 2 (.alloc [.int .i64 0,.int .i64 0,.str [],.sl .nil 5 [],.sl .nil 6 []])])
 (.seq (.rg [Im 7 0,zk 8 7,If 9 1 8,Il 10 1 9,Im 3 10])
 (.seq (.block 0 (.loop [0,2,3] (.seq (.seq (.reg [0,1,2,3,4,5,6,7,8,9,10,11,12,13,14,15,16,17,18,19,20,21,22] [Im 11 0,zk 12 11,If 13 1 12,Il 14 1 13,Im 15 0,zk 16 15,If 17 0 16,Il 18 1 17,WW 19 18,zK 20 14 19,Im 21 20,Jm 22 21 0,Jt 23 21 (.nilchk (.t 22)),Ja 24 21 0 23,Jl 25 21 1 24,Jm 26 21 0,Jt 27 21 (.nilchk (.t 26)),Ja 28 21 1 27,Jl 29 21 1 28,Jt 30 21 (.ixs (.t 25) (.t 29)),Jt 31 21 (.call 190 [(.k (.str [48,49,50,51,52,53,54,55,56,57,43,45,46,101,69])),(.t 30)]),Jt 32 21 (.bi .geq .i64 (.t 31) (.k (.int .i64 0))),zI 33 21 32])
 (.cond (.t 33) .skip (.exit 0)))
 (.block 1 (.rg [Im 34 0,zk 35 34,If 36 1 35,Il 37 1 36,zC 38 37 1,zk 39 34,If 40 1 39,⟨none,none,.st 1 (.t 40) (.t 38),[]⟩])))))
 (.seq (.reg [0,1,2,3,4,5,6,7,8,9,10] [Im 41 0,zk 42 41,If 43 0 42,Il 44 1 43,Im 45 3,Im 46 0,zk 47 46,If 48 1 47,Il 49 1 48,Io 50 (.sls (.t 44) (some (.t 45)) (some (.t 49))),Im 4 50])
 (.seq (.seq (.rg [Im 51 4,Io 52 (.call 319 [(.t 51)]),zN 53 52 0])
 (.cond (.t 53) (.rg [Im 54 0,Io 55 (.call 117 [(.t 54),(.k (.int .i64 2))])]) .skip))
 (.seq (.seq (.rg [Im 57 4,Io 58 (.call 320 [(.t 57)]),Im 56 58,zr 59 56 0,zr 60 56 1,Im 5 59,Im 6 60])
 (.seq (.rg [Im 61 6])
 (.cond (.t 61) (.seq (.rg [Im 62 5,Io 63 (.call 151 [(.t 62)]),⟨none,none,.st 5 (.t 2) (.t 63),[]⟩])
 .ret) .skip)))
 (.seq (.rg [Im 64 4,Io 65 (.bld [.int .i64 0,.int .i64 0,.str [],.sl .nil 5 [],.sl .nil 6 []] [(0,1,(.k (.int .i64 3))),(2,1,(.t 64))]),⟨none,none,.st 5 (.t 2) (.t 65),[]⟩])
 .ret))))))⟩
theorem ck187:za Tryz.prog 187 ir187=true:=by kernel_rfl
def ir188:zf:=⟨30,2,[.t 4],.seq (.rg [zh 4 false])
 (.seq (.rg [Im 6 0,Io 7 (.call 116 [(.t 6)])])
 (.seq (.reg [0,1,2,3,4,5,6,7,8,9,10,11] [Im 8 0,zk 9 8,If 10 0 9,Il 11 1 10,Im 12 0,zk 13 12,If 14 1 13,Il 15 1 14,Io 16 (.sls (.t 11) (some (.t 15)) none),Im 17 1,Io 18 (.call 267 [(.t 16),(.t 17)]),Im 5 18])
 (.seq (.seq (.rg [Im 19 5])
 (.cond (.t 19) (.rg [Im 20 0,zk 21 20,If 22 1 21,Il 23 1 22,Im 24 1,WW 25 24,XM 26 23 25,zk 27 20,If 28 1 27,⟨none,none,.st 1 (.t 28) (.t 26),[]⟩]) .skip))
 (.seq (.rg [Im 29 5,Im 4 29])
 .ret))))⟩
theorem ck188:za Tryz.prog 188 ir188=true:=by kernel_rfl
def ir189:zf:=⟨10,2,[],.seq (.rg [Im 4 0,Im 5 1,Io 6 (.call 188 [(.t 4),(.t 5)]),zW 7 6])
 (.cond (.t 7) (.rg [Im 8 0,Io 9 (.call 117 [(.t 8),(.k (.int .i64 2))])]) .skip)⟩
theorem ck189:za Tryz.prog 189 ir189=true:=by kernel_rfl
def ir201:zf:=⟨18,1,[.t 2],.seq (.rg [zh 2 false])
 (.seq (.seq (.rg [Im 5 0,zD 6 5,zj 7 0])
 (.block 0 (.loop [0,5,6,7] (.seq (.rg [zK 8 7 6])
 (.seq (.cond (.t 8) .skip (.exit 0))
 (.seq (.block 1 (.seq (.rg [Im 9 7,zF 10 1 5 7,Il 11 1 10,Im 3 9,Im 4 11])
 (.seq (.rg [Im 12 0,Im 13 3,Io 14 (.sll 1 (.t 12) none (some (.t 13)) none),Im 15 4,Io 16 (.call 148 [(.t 14),(.t 15)])])
 (.cond (.t 16) (.seq (.rg [zh 2 true])
 .ret) .skip))))
 (.rg [zC 17 7 1,Im 7 17])))))))
 (.seq (.rg [zh 2 false])
 .ret))⟩
theorem ck201:za Tryz.prog 201 ir201=true:=by kernel_rfl
def ir202:zf:=⟨23,1,[.t 2],.seq (.rg [zp 1 0,Io 2 (.mv (.k (.sl .nil 1 [])))])
 (.seq (.rg [Io 3 (.mv (.k (.sl .nil 1 [])))])
 (.seq (.seq (.rg [If 6 0 1,Il 7 1 6,zD 8 7,zj 9 0])
 (.block 0 (.loop [3,7,8,9] (.seq (.rg [zK 10 9 8])
 (.seq (.cond (.t 10) .skip (.exit 0))
 (.seq (.block 1 (.seq (.rg [zF 11 5 7 9,zc 12 5 11,Io 5 (.alloc [.int .i64 0,.str [],.sl .nil 10 [],.sl .nil 2 [],.sl .nil 7 []]),⟨none,none,.st 5 (.t 5) (.t 12),[]⟩])
 (.seq (.rg [If 13 1 5,Il 14 1 13,Io 15 (.bs .neq (.t 14) (.k (.str [])))])
 (.cond (.t 15) (.rg [Im 16 3,If 17 1 5,Il 18 1 17,Io 19 (.bls 1 1 [.str []] [(0,(.t 18))]),z1 20 1 16 16 19,Im 3 20]) .skip))))
 (.rg [zC 21 9 1,Im 9 21])))))))
 (.seq (.rg [Im 22 3,Im 2 22])
 .ret)))⟩
theorem ck202:za Tryz.prog 202 ir202=true:=by kernel_rfl
def ir203:zf:=⟨20,1,[.t 2],.seq (.rg [zp 1 0,Io 2 (.mv (.k (.sl .nil 1 [])))])
 (.seq (.rg [Io 3 (.mv (.k (.sl .nil 1 [])))])
 (.seq (.seq (.rg [If 6 0 1,Il 7 1 6,zD 8 7,zj 9 0])
 (.block 0 (.loop [3,7,8,9] (.seq (.rg [zK 10 9 8])
 (.seq (.cond (.t 10) .skip (.exit 0))
 (.seq (.block 1 (.seq (.rg [zF 11 5 7 9,zc 12 5 11,Io 5 (.alloc [.int .i64 0,.str [],.sl .nil 10 [],.sl .nil 2 [],.sl .nil 7 []]),⟨none,none,.st 5 (.t 5) (.t 12),[]⟩])
 (.rg [Im 13 3,If 14 1 5,Il 15 1 14,Io 16 (.bls 1 1 [.str []] [(0,(.t 15))]),z1 17 1 16 13 16,Im 3 17])))
 (.rg [zC 18 9 1,Im 9 18])))))))
 (.seq (.rg [Im 19 3,Im 2 19])
 .ret)))⟩
theorem ck203:za Tryz.prog 203 ir203=true:=by kernel_rfl
def ir205:zf:=⟨6,1,[.t 2],.seq (.rg [zp 1 0,zh 2 false])
 (.seq (.rg [If 3 0 1,Il 4 1 3,zN 5 4 1,Im 2 5])
 .ret)⟩
theorem ck205:za Tryz.prog 205 ir205=true:=by kernel_rfl
def ir206:zf:=⟨20,1,[.t 2],.seq (.rg [zp 1 0,Io 2 (.mv (.k (.sl .nil 1 [])))])
 (.seq (.rg [Io 3 (.mv (.k (.sl .nil 1 [])))])
 (.seq (.seq (.rg [If 6 1 1,Il 7 1 6,zD 8 7,zj 9 0])
 (.block 0 (.loop [3,7,8,9] (.seq (.rg [zK 10 9 8])
 (.seq (.cond (.t 10) .skip (.exit 0))
 (.seq (.block 1 (.seq (.rg [zF 11 4 7 9,zc 12 4 11,Io 5 (.alloc [.str [],.str [],.sl .nil 2 [],.sl .nil 7 []]),⟨none,none,.st 4 (.t 5) (.t 12),[]⟩])
 (.rg [Im 13 3,If 14 0 5,Il 15 1 14,Io 16 (.bls 1 1 [.str []] [(0,(.t 15))]),z1 17 1 16 13 16,Im 3 17])))
 (.rg [zC 18 9 1,Im 9 18])))))))
 (.seq (.rg [Im 19 3,Im 2 19])
 .ret)))⟩
theorem ck206:za Tryz.prog 206 ir206=true:=by kernel_rfl
def ir207:zf:=⟨17,2,[.t 4],.seq (.rg [zp 2 0,zp 3 1,zh 4 false])
 (.seq (.rg [If 5 1 3,Il 6 1 5,Io 7 (.mkfn 331 [] [(.t 2)]),Io 8 (.call 146 [(.t 6),(.t 7)]),zW 9 8,Im 10 9,Jt 11 10 (.ld 2 true (.t 3)),Jt 12 10 (.call 333 [(.t 11)]),Jt 13 10 (.mkfn 334 [] [(.t 2)]),Jt 14 10 (.call 332 [(.t 12),(.t 13)]),Jt 15 10 (.not (.t 14)),zI 16 10 15,Im 4 16])
 .ret)⟩
theorem ck207:za Tryz.prog 207 ir207=true:=by kernel_rfl
def ir208:zf:=⟨8,1,[.t 2],.seq (.rg [Io 1 (.box (.t 0)),zh 2 false])
 (.seq (.rg [zc 3 2 1,Io 4 (.call 333 [(.t 3)]),Io 5 (.mkfn 336 [] [(.t 1)]),Io 6 (.call 332 [(.t 4),(.t 5)]),zW 7 6,Im 2 7])
 .ret)⟩
theorem ck208:za Tryz.prog 208 ir208=true:=by kernel_rfl
def ir209:zf:=⟨25,1,[.t 2],.seq (.rg [zp 1 0,zh 2 false])
 (.seq (.rg [Io 3 (.alloc [.sl .nil 1 []])])
 (.seq (.seq (.rg [If 6 0 1,Il 7 1 6,zD 8 7,zj 9 0])
 (.block 0 (.loop [1,3,7,8,9] (.seq (.rg [zK 10 9 8])
 (.seq (.cond (.t 10) .skip (.exit 0))
 (.seq (.block 1 (.seq (.rg [zF 11 5 7 9,zc 12 5 11,Io 5 (.alloc [.int .i64 0,.str [],.sl .nil 10 [],.sl .nil 2 [],.sl .nil 7 []]),⟨none,none,.st 5 (.t 5) (.t 12),[]⟩])
 (.reg [0,1,2,3,4,5,6] [Il 13 1 3,zc 14 2 1,If 15 4 5,Il 16 1 15,⟨some 17,none,.call 149 [(.t 14),(.t 16)],[0]⟩,z1 18 1 16 13 17,⟨none,none,.st 1 (.t 3) (.t 18),[]⟩])))
 (.rg [zC 19 9 1,Im 9 19])))))))
 (.seq (.rg [If 20 1 1,Il 21 1 20,Io 22 (.mkfn 338 [] [(.t 3)]),Io 23 (.call 146 [(.t 21),(.t 22)]),zW 24 23,Im 2 24])
 .ret)))⟩
theorem ck209:za Tryz.prog 209 ir209=true:=by kernel_rfl
def ir210:zf:=⟨44,3,[.t 6],.seq (.rg [zp 3 0,zp 4 1,zh 6 false])
 (.seq (.seq (.rg [If 11 0 4,Il 12 1 11,zD 13 12,zj 14 0])
 (.block 0 (.loop [2,3,4,12,13,14] (.seq (.rg [zK 15 14 13])
 (.seq (.cond (.t 15) .skip (.exit 0))
 (.seq (.block 1 (.seq (.rg [zF 16 5 12 14,zc 17 5 16,Io 8 (.alloc [.int .i64 0,.str [],.sl .nil 10 [],.sl .nil 2 [],.sl .nil 7 []]),⟨none,none,.st 5 (.t 8) (.t 17),[]⟩])
 (.seq (.reg [0,1,2,4,5,6,3,7,8] [zc 18 3 3,zc 19 3 3,zc 20 5 8,If 22 4 8,Il 23 1 22,Im 24 2,⟨some 21,none,.call 89 [(.t 19),(.t 20)],[0,4]⟩,Io 25 (.call 339 [(.t 18),(.t 21),(.t 23),(.t 24)]),zW 26 25])
 (.cond (.t 26) (.seq (.rg [zh 6 false])
 .ret) .skip))))
 (.rg [zC 27 14 1,Im 14 27])))))))
 (.seq (.seq (.rg [If 28 1 4,Il 29 1 28,zD 30 29,zj 31 0])
 (.block 2 (.loop [2,3,29,30,31] (.seq (.rg [zK 32 31 30])
 (.seq (.cond (.t 32) .skip (.exit 2))
 (.seq (.block 3 (.seq (.rg [zF 33 4 29 31,zc 34 4 33,Io 10 (.alloc [.str [],.str [],.sl .nil 2 [],.sl .nil 7 []]),⟨none,none,.st 4 (.t 10) (.t 34),[]⟩])
 (.seq (.rg [zc 35 3 3,If 36 1 10,Il 37 1 36,If 38 3 10,Il 39 1 38,Im 40 2,Io 41 (.call 339 [(.t 35),(.t 37),(.t 39),(.t 40)]),zW 42 41])
 (.cond (.t 42) (.seq (.rg [zh 6 false])
 .ret) .skip))))
 (.rg [zC 43 31 1,Im 31 43])))))))
 (.seq (.rg [zh 6 true])
 .ret)))⟩
theorem ck210:za Tryz.prog 210 ir210=true:=by kernel_rfl
def ir211:zf:=⟨28,5,[.t 7],.seq (.rg [zp 6 1,zh 7 false])
 (.seq (.seq (.rg [Il 8 1 2])
 (.block 0 (.seq (.rg [zN 10 8 9,Im 9 10])
 (.cond (.t 9) (.seq (.rg [zc 11 3 3,Im 12 0,zc 13 7 6,Io 14 (.call 212 [(.t 11),(.t 12),(.t 13)]),Im 7 14])
 .ret) (.seq (.rg [zN 16 8 10,Im 15 16])
 (.cond (.t 15) (.seq (.rg [zc 17 3 3,Im 18 0,zc 19 7 6,Io 20 (.call 213 [(.t 17),(.t 18),(.t 19)]),Im 7 20])
 .ret) (.seq (.rg [zN 22 8 11,Im 21 22])
 (.cond (.t 21) (.seq (.rg [zc 23 3 3,zc 24 2 4,Im 25 0,zc 26 7 6,Io 27 (.call 214 [(.t 23),(.t 24),(.t 25),(.t 26)]),Im 7 27])
 .ret) .skip))))))))
 (.seq (.rg [zh 7 false])
 .ret))⟩
theorem ck211:za Tryz.prog 211 ir211=true:=by kernel_rfl
def ir212:zf:=⟨23,3,[.t 6],.seq (.rg [zp 3 0,zp 5 2,zh 6 false])
 (.seq (.rg [zc 10 3 3,Im 11 1,If 12 2 5,Il 13 1 12,Io 14 (.call 340 [(.t 10),(.t 11),(.t 13)]),Im 9 14,zr 15 9 0,zr 16 9 1,Io 7 (.alloc [.str [],.sl .nil 10 [],.str [],.int .i64 0,.int .i64 0,.sl .nil 2 []]),⟨none,none,.st 6 (.t 7) (.t 15),[]⟩,Im 8 16])
 (.seq (.rg [If 17 0 5,Il 18 1 17,Io 19 (.bi .neq .i64 (.t 18) (.k (.int .i64 0))),Im 20 19,Fm 21 20 8,ye 22 20 21,Im 6 22])
 .ret))⟩
theorem ck212:za Tryz.prog 212 ir212=true:=by kernel_rfl
def ir213:zf:=⟨35,3,[.t 6],.seq (.rg [zp 3 0,zp 5 2,zh 6 false])
 (.seq (.seq (.rg [If 8 0 5,Il 9 1 8,Io 10 (.bi .neq .i64 (.t 9) (.k (.int .i64 0)))])
 (.cond (.t 10) (.seq (.rg [zh 6 true])
 .ret) .skip))
 (.seq (.rg [zc 11 3 3,Im 12 1,zc 13 7 5,Io 14 (.call 341 [(.t 11),(.t 12),(.t 13)]),Im 7 14])
 (.seq (.reg [0,1,2,3,4,5,6,7,8,9,10,11,12,14,15,16,17,13,18,19,20] [zc 15 3 3,Im 16 7,Io 17 (.call 176 [(.t 15),(.t 16)]),zW 18 17,Im 19 18,Jt 20 19 (.ld 3 true (.t 3)),Jm 21 19 7,Jt 22 19 (.call 177 [(.t 20),(.t 21)]),Jt 23 19 (.not (.t 22)),zI 24 19 23,Im 25 24,Jf 26 25 (.ld 3 true (.t 3)),Fm 27 25 7,Fa 29 25 6 5,Fl 30 25 1 29,Jf 31 25 (.len (.t 30)),Jf 32 25 (.bi .gtr .i64 (.t 31) (.k (.int .i64 0))),⟨some 28,(some (25,false)),.call 177 [(.t 26),(.t 27)],[14]⟩,Jf 33 25 (.bb false (.t 28) (.t 32)),ye 34 25 33,Im 6 34])
 .ret)))⟩
theorem ck213:za Tryz.prog 213 ir213=true:=by kernel_rfl
def ir214:zf:=⟨42,4,[.t 8],.seq (.rg [zp 4 0,zp 5 1,zp 7 3,zh 8 false])
 (.seq (.rg [If 12 5 7,Il 13 1 12,Im 9 13])
 (.seq (.seq (.rg [If 14 0 7,Il 15 1 14])
 (.block 0 (.seq (.rg [zN 17 15 2,Im 16 17])
 (.cond (.t 16) .skip (.seq (.rg [zN 19 15 1,Im 18 19])
 (.cond (.t 18) (.seq (.rg [zc 21 2 5,If 22 2 7,Il 23 1 22,Io 24 (.call 263 [(.t 21),(.t 23)]),Im 20 24,zr 25 20 0,zr 26 20 1,Io 10 (.alloc [.str [],.str [],.sl .nil 2 [],.sl .nil 7 []]),⟨none,none,.st 4 (.t 10) (.t 25),[]⟩,Im 11 26])
 (.rg [If 27 1 10,Il 28 1 27,Im 9 28])) (.seq (.rg [zh 8 true])
 .ret)))))))
 (.seq (.rg [If 29 0 7,Il 30 1 29,zN 31 30 2,Im 32 31,Jm 33 32 9,Jt 34 32 (.bs .eql (.t 33) (.k (.str []))),zI 35 32 34,Im 36 35,Jf 37 36 (.ld 3 true (.t 4)),Fm 38 36 2,Fm 39 36 9,Jf 40 36 (.call 342 [(.t 37),(.t 38),(.t 39)]),ye 41 36 40,Im 8 41])
 .ret)))⟩
theorem ck214:za Tryz.prog 214 ir214=true:=by kernel_rfl
def ir215:zf:=⟨19,2,[.t 4],.seq (.rg [zp 2 0,zh 4 false])
 (.seq (.seq (.rg [zc 7 2 2,Io 8 (.call 343 [(.t 7)]),zD 9 8,zj 10 0])
 (.block 0 (.loop [1,8,9,10] (.seq (.rg [zK 11 10 9])
 (.seq (.cond (.t 11) .skip (.exit 0))
 (.seq (.block 1 (.seq (.rg [zF 12 1 8 10,Il 13 1 12,Im 6 13])
 (.seq (.rg [Im 14 1,Im 15 6,Io 16 (.callv (.t 14) [(.t 15)]),zW 17 16])
 (.cond (.t 17) (.seq (.rg [zh 4 false])
 .ret) .skip))))
 (.rg [zC 18 10 1,Im 10 18])))))))
 (.seq (.rg [zh 4 true])
 .ret))⟩
theorem ck215:za Tryz.prog 215 ir215=true:=by kernel_rfl
def ir216:zf:=⟨22,1,[.t 2],.seq (.rg [zh 2 false])
 (.seq (.seq (.rg [Im 7 0,zD 8 7,zj 9 0])
 (.block 0 (.loop [7,8,9] (.seq (.rg [zK 10 9 8])
 (.seq (.cond (.t 10) .skip (.exit 0))
 (.seq (.block 1 (.seq (.rg [zF 11 2 7 9,zc 12 2 11,Io 4 (.alloc [.str [],.sl .nil 6 []]),⟨none,none,.st 2 (.t 4) (.t 12),[]⟩])
 (.seq (.rg [If 14 0 4,Il 15 1 14,Io 16 (.call 344 [(.t 15)]),Im 13 16,zr 17 13 0,zr 18 13 1,Io 5 (.alloc [.str [],.str [],.int .i64 0,.int .i64 0,.bool false,.int .i64 0,.int .i64 0,.str [],.sl .nil 5 [],.sl .nil 6 []]),⟨none,none,.st 10 (.t 5) (.t 17),[]⟩,Im 6 18])
 (.seq (.rg [Im 19 6,zW 20 19])
 (.cond (.t 20) (.seq (.rg [zh 2 false])
 .ret) .skip)))))
 (.rg [zC 21 9 1,Im 9 21])))))))
 (.seq (.rg [zh 2 true])
 .ret))⟩
theorem ck216:za Tryz.prog 216 ir216=true:=by kernel_rfl
def ir217:zf:=⟨11,3,[.t 6],.seq (.rg [zp 3 0,zp 4 1,zp 5 2,zh 6 false])
 (.seq (.rg [zc 7 3 3,zc 8 2 4,Io 9 (.mkfn 345 [] [(.t 5)]),Io 10 (.call 210 [(.t 7),(.t 8),(.t 9)]),Im 6 10])
 .ret)⟩
theorem ck217:za Tryz.prog 217 ir217=true:=by kernel_rfl
def ir218:zf:=⟨6,1,[.t 2],.seq (.rg [zh 2 false])
 (.seq (.rg [Im 3 0,zD 4 3,zN 5 4 0,Im 2 5])
 .ret)⟩
theorem ck218:za Tryz.prog 218 ir218=true:=by kernel_rfl
def ir219:zf:=⟨31,1,[.t 2],.seq (.rg [zh 2 false])
 (.scope (.seq (.rg [zh 3 true])
 (.seq .skip
 (.seq (.seq (.rg [Im 8 0,zD 9 8,zj 10 0])
 (.block 0 (.loop [0,3,8,9,10] (.seq (.rg [zK 11 10 9])
 (.seq (.cond (.t 11) .skip (.exit 0))
 (.seq (.block 1 (.seq (.rg [Im 12 10,zF 13 2 8 10,zc 14 2 13,Io 5 (.alloc [.str [],.sl .nil 6 []]),Im 4 12,⟨none,none,.st 2 (.t 5) (.t 14),[]⟩])
 (.seq (.rg [Im 15 0,Im 16 4,Io 17 (.sll 2 (.t 15) none (some (.t 16)) none),zD 18 17,zj 19 0])
 (.block 2 (.loop [0,3,5,8,9,10,17,18,19] (.seq (.rg [zK 20 19 18])
 (.seq (.cond (.t 20) .skip (.exit 2))
 (.seq (.block 3 (.seq (.rg [zF 21 2 17 19,zc 22 2 21,Io 7 (.alloc [.str [],.sl .nil 6 []]),⟨none,none,.st 2 (.t 7) (.t 22),[]⟩])
 (.seq (.rg [If 23 0 7,Il 24 1 23,If 25 0 5,Il 26 1 25,Io 27 (.bs .eql (.t 24) (.t 26))])
 (.cond (.t 27) (.seq (.rg [zh 3 false])
 (.exit 0)) .skip))))
 (.rg [zC 28 19 1,Im 19 28])))))))))
 (.rg [zC 29 10 1,Im 10 29])))))))
 (.seq (.rg [Im 30 3,Im 2 30])
 .ret)))))⟩
theorem ck219:za Tryz.prog 219 ir219=true:=by kernel_rfl
def ir220:zf:=⟨11,3,[.t 6],.seq (.rg [zp 3 0,zp 4 1,zp 5 2,zh 6 false])
 (.seq (.rg [zc 7 3 3,zc 8 2 4,Io 9 (.mkfn 346 [] [(.t 3),(.t 5)]),Io 10 (.call 210 [(.t 7),(.t 8),(.t 9)]),Im 6 10])
 .ret)⟩
theorem ck220:za Tryz.prog 220 ir220=true:=by kernel_rfl
def ir221:zf:=⟨25,2,[.t 4],.seq (.rg [zh 4 false])
 (.seq (.seq (.rg [Im 9 1,zD 10 9,zj 11 0])
 (.block 0 (.loop [0,9,10,11] (.seq (.rg [zK 12 11 10])
 (.seq (.cond (.t 12) .skip (.exit 0))
 (.seq (.block 1 (.seq (.rg [zF 13 6 9 11,zc 14 6 13,Io 6 (.alloc [.str [],.int .i64 0,.int .i64 0,.str [],.sl .nil 5 [],.sl .nil 6 []]),⟨none,none,.st 6 (.t 6) (.t 14),[]⟩])
 (.seq (.rg [Im 16 0,If 17 0 6,Il 18 1 17,Io 19 (.call 313 [(.t 16),(.t 18)]),Im 15 19,zr 20 15 0,zr 21 15 1,Io 7 (.alloc [.str [],.str [],.int .i64 0,.int .i64 0,.bool false,.int .i64 0,.int .i64 0,.str [],.sl .nil 5 [],.sl .nil 6 []]),⟨none,none,.st 10 (.t 7) (.t 20),[]⟩,Im 8 21])
 (.seq (.rg [Im 22 8,zW 23 22])
 (.cond (.t 23) (.seq (.rg [zh 4 false])
 .ret) .skip)))))
 (.rg [zC 24 11 1,Im 11 24])))))))
 (.seq (.rg [zh 4 true])
 .ret))⟩
theorem ck221:za Tryz.prog 221 ir221=true:=by kernel_rfl
def ir222:zf:=⟨7,2,[.t 4],.seq (.rg [zh 4 false])
 (.seq (.rg [Im 5 1,Io 6 (.call 348 [(.t 5)]),Im 4 6])
 .ret)⟩
theorem ck222:za Tryz.prog 222 ir222=true:=by kernel_rfl
def ir223:zf:=⟨29,2,[.t 4],.seq (.rg [zh 4 false])
 (.scope (.seq .skip
 (.seq (.seq (.rg [Im 9 0,zD 10 9,zj 11 0])
 (.block 0 (.loop [1,9,10,11] (.seq (.rg [zK 12 11 10])
 (.seq (.cond (.t 12) .skip (.exit 0))
 (.seq (.block 1 (.seq (.rg [zF 13 10 9 11,zc 14 10 13,Io 6 (.alloc [.str [],.str [],.int .i64 0,.int .i64 0,.bool false,.int .i64 0,.int .i64 0,.str [],.sl .nil 5 [],.sl .nil 6 []]),⟨none,none,.st 10 (.t 6) (.t 14),[]⟩])
 (.seq (.seq (.rg [If 16 0 6,Il 17 1 16,Im 18 1,Io 19 (.call 59 [(.t 17),(.t 18)]),Im 15 19,zr 20 15 0,zr 21 15 1,Io 7 (.alloc [.int .i64 0,.int .i64 0,.str [],.sl .nil 5 [],.sl .nil 6 []]),⟨none,none,.st 5 (.t 7) (.t 20),[]⟩,Im 8 21])
 (.seq (.rg [Im 22 8,Im 23 22,Jf 24 23 (.ld 10 true (.t 6)),Jf 25 23 (.call 349 [(.t 24)]),Jf 26 23 (.not (.t 25)),ye 27 23 26])
 (.cond (.t 27) (.exit 1) .skip)))
 (.seq (.rg [zh 4 false])
 .ret))))
 (.rg [zC 28 11 1,Im 11 28])))))))
 (.seq (.rg [zh 4 true])
 .ret))))⟩
theorem ck223:za Tryz.prog 223 ir223=true:=by kernel_rfl
def ir224:zf:=⟨12,4,[.t 5],.seq (.rg [zp 4 0,zh 5 false])
 (.seq (.rg [zc 6 3 1,zc 7 2 2,zc 8 5 4,Il 9 1 3,Io 10 (.call 225 [(.t 6),(.t 7),(.t 8),(.t 9)]),zW 11 10,Im 5 11])
 .ret)⟩
theorem ck224:za Tryz.prog 224 ir224=true:=by kernel_rfl
def ir225:zf:=⟨40,4,[.t 8],.seq (.rg [zp 4 0,zp 5 1,zp 6 2,zh 8 false])
 (.seq (.seq (.rg [Im 10 3])
 (.block 0 (.seq (.rg [zN 12 10 18,Im 11 12])
 (.cond (.t 11) (.seq (.rg [zc 13 5 6,Io 14 (.call 350 [(.t 13)]),Im 8 14])
 .ret) (.seq (.rg [zN 16 10 19,Im 15 16])
 (.cond (.t 15) (.seq (.rg [If 17 2 6,Il 18 1 17,Io 19 (.mkfn 352 [] [(.t 4)]),Io 20 (.call 351 [(.t 18),(.t 19)]),zW 21 20,Im 8 21])
 .ret) (.seq (.rg [zN 23 10 20,Im 22 23])
 (.cond (.t 22) (.seq (.rg [zc 24 2 5,If 25 4 6,Il 26 1 25,Io 27 (.call 354 [(.t 24),(.t 26)]),Io 28 (.mkfn 355 [] [(.t 6)]),Io 29 (.call 283 [(.t 27),(.t 28)]),zW 30 29,Im 8 30])
 .ret) .skip))))))))
 (.seq (.rg [zc 31 2 5,If 32 4 6,Il 33 1 32,Io 34 (.call 354 [(.t 31),(.t 33)]),Io 9 (.alloc [.sl .nil 1 []]),⟨none,none,.st 1 (.t 9) (.t 34),[]⟩])
 (.seq (.rg [If 35 2 6,Il 36 1 35,Io 37 (.mkfn 357 [] [(.t 9)]),Io 38 (.call 351 [(.t 36),(.t 37)]),zW 39 38,Im 8 39])
 .ret)))⟩
theorem ck225:za Tryz.prog 225 ir225=true:=by kernel_rfl
def ir226:zf:=⟨40,2,[.t 4],.seq (.rg [zp 2 0,zp 3 1,zh 4 false])
 (.seq (.seq (.rg [If 9 0 3,Il 10 1 9,zD 11 10,zj 12 0])
 (.block 0 (.loop [2,3,10,11,12] (.seq (.rg [zK 13 12 11])
 (.seq (.cond (.t 13) .skip (.exit 0))
 (.seq (.block 1 (.seq (.rg [zF 14 5 10 12,zc 15 5 14,Io 6 (.alloc [.int .i64 0,.str [],.sl .nil 10 [],.sl .nil 2 [],.sl .nil 7 []]),⟨none,none,.st 5 (.t 6) (.t 15),[]⟩])
 (.seq (.rg [If 16 2 6,Il 17 1 16,zD 18 17,zj 19 0])
 (.block 2 (.loop [2,3,10,11,12,17,18,19] (.seq (.rg [zK 20 19 18])
 (.seq (.cond (.t 20) .skip (.exit 2))
 (.seq (.block 3 (.seq (.rg [zF 21 10 17 19,zc 22 10 21,Io 8 (.alloc [.str [],.str [],.int .i64 0,.int .i64 0,.bool false,.int .i64 0,.int .i64 0,.str [],.sl .nil 5 [],.sl .nil 6 []]),⟨none,none,.st 10 (.t 8) (.t 22),[]⟩])
 (.seq (.rg [If 23 4 8,Il 24 1 23,Im 25 24,Jt 26 25 (.ld 3 true (.t 2)),Ja 27 25 1 8,Jt 28 25 (.ld 3 true (.t 27)),Ja 29 25 5 8,Jt 30 25 (.ld 5 true (.t 29)),Jt 31 25 (.call 358 [(.t 26),(.t 28),(.t 30)]),Jt 32 25 (.not (.t 31)),zI 33 25 32])
 (.cond (.t 33) (.seq (.rg [zh 4 false])
 .ret) .skip))))
 (.rg [zC 34 19 1,Im 19 34])))))))))
 (.rg [zC 35 12 1,Im 12 35])))))))
 (.seq (.rg [zc 36 3 2,zc 37 2 3,Io 38 (.mkfn 359 [] [(.t 2)]),Io 39 (.call 220 [(.t 36),(.t 37),(.t 38)]),Im 4 39])
 .ret))⟩
theorem ck226:za Tryz.prog 226 ir226=true:=by kernel_rfl
def ir227:zf:=⟨49,2,[.t 4],.seq (.rg [zp 2 0,zp 3 1,zh 4 false])
 (.scope (.seq (.rg [zh 5 true])
 (.seq .skip
 (.seq (.seq (.rg [If 12 0 3,Il 13 1 12,zD 14 13,zj 15 0])
 (.block 0 (.loop [2,3,5,13,14,15] (.seq (.rg [zK 16 15 14])
 (.seq (.cond (.t 16) .skip (.exit 0))
 (.seq (.block 1 (.seq (.rg [zF 17 5 13 15,zc 18 5 17,Io 7 (.alloc [.int .i64 0,.str [],.sl .nil 10 [],.sl .nil 2 [],.sl .nil 7 []]),⟨none,none,.st 5 (.t 7) (.t 18),[]⟩])
 (.seq (.rg [zc 19 3 2,zc 20 2 3,zc 21 5 7,Io 22 (.call 360 [(.t 19),(.t 20),(.t 21)]),zD 23 22,zj 24 0])
 (.block 2 (.loop [2,3,5,7,13,14,15,22,23,24] (.seq (.rg [zK 25 24 23])
 (.seq (.cond (.t 25) .skip (.exit 2))
 (.seq (.block 3 (.seq (.rg [zF 26 5 22 24,zc 27 5 26,Io 9 (.alloc [.str [],.str [],.int .i64 0,.int .i64 0,.bool false]),⟨none,none,.st 5 (.t 9) (.t 27),[]⟩])
 (.seq (.rg [zc 29 5 7,If 30 0 9,Il 31 1 30,Io 32 (.call 356 [(.t 29),(.t 31)]),Im 28 32,zr 33 28 0,zr 34 28 1,Io 10 (.alloc [.str [],.str [],.int .i64 0,.int .i64 0,.bool false,.int .i64 0,.int .i64 0,.str [],.sl .nil 5 [],.sl .nil 6 []]),⟨none,none,.st 10 (.t 10) (.t 33),[]⟩,Im 11 34])
 (.seq (.rg [Im 35 11,Im 36 35,Jt 37 36 (.ld 10 true (.t 10)),Ja 38 36 1 9,Jt 39 36 (.ld 3 true (.t 38)),Ja 40 36 4 9,Jl 41 36 1 40,Jt 42 36 (.call 361 [(.t 37),(.t 39),(.t 41)]),zI 43 36 42,Im 5 43])
 (.seq (.rg [Im 44 5,zW 45 44])
 (.cond (.t 45) (.exit 0) .skip))))))
 (.rg [zC 46 24 1,Im 24 46])))))))))
 (.rg [zC 47 15 1,Im 15 47])))))))
 (.seq (.rg [Im 48 5,Im 4 48])
 .ret)))))⟩
theorem ck227:za Tryz.prog 227 ir227=true:=by kernel_rfl
def ir228:zf:=⟨48,3,[.t 6],.seq (.rg [Io 6 (.mv (.k (.sl .nil 10 [])))])
 (.seq (.rg [Io 7 (.mv (.k (.sl .nil 10 [])))])
 (.seq (.seq (.rg [Im 11 2,zD 12 11,zj 13 0])
 (.block 0 (.loop [0,1,7,11,12,13] (.seq (.rg [zK 14 13 12])
 (.seq (.cond (.t 14) .skip (.exit 0))
 (.seq (.block 1 (.seq (.rg [zF 15 7 11 13,zc 16 7 15,Io 9 (.alloc [.int .i64 0,.str [],.str [],.sl .nil 6 [],.sl .nil 2 [],.str [],.sl .nil 7 []]),⟨none,none,.st 7 (.t 9) (.t 16),[]⟩])
 (.seq (.rg [Im 17 0,zk 18 17,If 19 3 18,Il 20 1 19,zC 21 20 1,zk 22 17,If 23 3 22,⟨none,none,.st 1 (.t 23) (.t 21),[]⟩])
 (.seq (.rg [Im 24 0,zk 25 24,If 26 3 25,Il 27 1 26,Im 10 27])
 (.reg [0,1,2,3,4,5,6,7,8,9,10,12,13,11,14,15,16,17,18] [Im 28 7,Im 29 10,zc 30 7 9,Im 31 1,Im 32 0,Im 33 0,zk 34 33,If 35 0 34,zc 36 3 35,Im 37 1,zc 38 7 9,If 40 6 9,Il 41 1 40,⟨some 39,none,.call 341 [(.t 36),(.t 37),(.t 38)],[2,12]⟩,⟨some 42,none,.call 228 [(.t 32),(.t 39),(.t 41)],[2]⟩,Io 43 (.bld [.int .i64 0,.int .i64 0,.str [],.str [],.sl .nil 6 [],.sl .nil 2 [],.str [],.sl .nil 7 [],.str [],.sl .nil 10 []] [(0,1,(.t 29)),(1,7,(.t 30)),(8,1,(.t 31)),(9,1,(.t 42))]),Io 44 (.bls 10 1 [.int .i64 0,.int .i64 0,.str [],.str [],.sl .nil 6 [],.sl .nil 2 [],.str [],.sl .nil 7 [],.str [],.sl .nil 10 []] [(0,(.t 43))]),z1 45 10 176 28 44,Im 7 45])))))
 (.rg [zC 46 13 1,Im 13 46])))))))
 (.seq (.rg [Im 47 7,Im 6 47])
 .ret)))⟩
theorem ck228:za Tryz.prog 228 ir228=true:=by kernel_rfl
def ir229:zf:=⟨57,2,[.t 4],.seq (.rg [zh 4 false])
 (.seq (.rg [Im 12 0,Im 13 1,Io 14 (.mkm (.one .s)),Io 15 (.call 362 [(.t 12),(.t 13),(.t 14)]),Im 5 15])
 (.seq (.seq (.rg [Im 16 5,zD 17 16,zj 18 0])
 (.block 0 (.loop [0,1,5,16,17,18] (.seq (.rg [zK 19 18 17])
 (.seq (.cond (.t 19) .skip (.exit 0))
 (.seq (.block 1 (.seq (.rg [Im 20 18,zF 21 10 16 18,zc 22 10 21,Io 7 (.alloc [.int .i64 0,.int .i64 0,.str [],.str [],.sl .nil 6 [],.sl .nil 2 [],.str [],.sl .nil 7 [],.str [],.sl .nil 10 []]),Im 6 20,⟨none,none,.st 10 (.t 7) (.t 22),[]⟩])
 (.scope (.seq .skip
 (.seq (.rg [Im 23 5,Im 24 6,Io 25 (.sll 10 (.t 23) none (some (.t 24)) none),zD 26 25,zj 27 0])
 (.block 2 (.loop [0,1,5,7,16,17,18,25,26,27] (.seq (.rg [zK 28 27 26])
 (.seq (.cond (.t 28) .skip (.exit 2))
 (.seq (.block 3 (.seq (.rg [zF 29 10 25 27,zc 30 10 29,Io 9 (.alloc [.int .i64 0,.int .i64 0,.str [],.str [],.sl .nil 6 [],.sl .nil 2 [],.str [],.sl .nil 7 [],.str [],.sl .nil 10 []]),⟨none,none,.st 10 (.t 9) (.t 30),[]⟩])
 (.seq (.seq (.reg [0,1,3,4,2,5,6] [If 31 1 7,zc 32 7 31,If 34 1 9,zc 35 7 34,⟨some 33,none,.call 363 [(.t 32)],[3]⟩,Io 36 (.call 363 [(.t 35)]),Io 37 (.bs .neq (.t 33) (.t 36))])
 (.cond (.t 37) (.exit 3) .skip))
 (.seq (.rg [Im 38 0,zc 39 10 9,zc 40 10 7,Io 41 (.call 364 [(.t 38),(.t 39),(.t 40)]),zW 42 41])
 (.cond (.t 42) (.seq (.rg [zh 4 false])
 .ret) .skip)))))
 (.rg [zC 43 27 1,Im 27 43])))))))))))
 (.rg [zC 44 18 1,Im 18 44])))))))
 (.seq (.seq (.rg [Im 45 1,zD 46 45,zj 47 0])
 (.block 4 (.loop [0,45,46,47] (.seq (.rg [zK 48 47 46])
 (.seq (.cond (.t 48) .skip (.exit 4))
 (.seq (.block 5 (.seq (.rg [zF 49 10 45 47,zc 50 10 49,Io 11 (.alloc [.int .i64 0,.int .i64 0,.str [],.str [],.sl .nil 6 [],.sl .nil 2 [],.str [],.sl .nil 7 [],.str [],.sl .nil 10 []]),⟨none,none,.st 10 (.t 11) (.t 50),[]⟩])
 (.seq (.rg [Im 51 0,If 52 9 11,Il 53 1 52,Io 54 (.call 229 [(.t 51),(.t 53)]),zW 55 54])
 (.cond (.t 55) (.seq (.rg [zh 4 false])
 .ret) .skip))))
 (.rg [zC 56 47 1,Im 47 56])))))))
 (.seq (.rg [zh 4 true])
 .ret))))⟩
theorem ck229:za Tryz.prog 229 ir229=true:=by kernel_rfl
def ir234:zf:=⟨24,2,[.t 4],.seq (.rg [zp 2 0,zp 3 1,zh 4 false])
 (.seq (.seq (.rg [If 7 3 2,Il 8 1 7,zW 9 8,Im 10 9,Fa 11 10 0 3,Fl 12 10 1 11,Jf 13 10 (.bi .neq .i64 (.t 12) (.k (.int .i64 8))),ye 14 10 13])
 (.cond (.t 14) (.seq (.rg [zh 4 true])
 .ret) .skip))
 (.seq (.rg [If 16 2 3,Il 17 1 16,If 18 5 2,Il 19 1 18,Io 20 (.call 59 [(.t 17),(.t 19)]),Im 15 20,zr 21 15 0,zr 22 15 1,Io 5 (.alloc [.int .i64 0,.int .i64 0,.str [],.sl .nil 5 [],.sl .nil 6 []]),⟨none,none,.st 5 (.t 5) (.t 21),[]⟩,Im 6 22])
 (.seq (.rg [Im 23 6,Im 4 23])
 .ret)))⟩
theorem ck234:za Tryz.prog 234 ir234=true:=by kernel_rfl
def ir235:zf:=⟨23,3,[.c 6 5 true,.t 7],.seq (.rg [zp 3 0,zp 4 1,zp 5 2,Io 6 (.alloc [.int .i64 0,.int .i64 0,.str [],.sl .nil 5 [],.sl .nil 6 []]),zj 7 0])
 (.seq (.seq (.rg [zc 8 3 4,Io 9 (.call 370 [(.t 8)]),zW 10 9,Im 11 10,Jf 12 11 (.ld 5 true (.t 5)),Jf 13 11 (.call 68 [(.t 12)]),Jf 14 11 (.not (.t 13)),ye 15 11 14])
 (.cond (.t 15) (.seq (.rg [Io 16 (.bld [.int .i64 0,.int .i64 0,.str [],.sl .nil 5 [],.sl .nil 6 []] []),⟨none,none,.st 5 (.t 6) (.t 16),[]⟩,zj 7 1])
 .ret) .skip))
 (.seq (.rg [zc 17 6 3,zc 18 3 4,zc 19 5 5,Io 20 (.call 371 [(.t 17),(.t 18),(.t 19)]),zr 21 20 0,zr 22 20 1,⟨none,none,.st 5 (.t 6) (.t 21),[]⟩,Im 7 22])
 .ret))⟩
theorem ck235:za Tryz.prog 235 ir235=true:=by kernel_rfl
def ir240:zf:=⟨26,1,[.c 2 5 true,.t 3],.seq (.rg [Io 2 (.alloc [.str [],.str [],.str [],.str [],.sl .nil 6 []]),zh 3 false])
 (.seq (.seq (.rg [Im 4 0,Io 5 (.call 136 [(.t 4)]),Io 6 (.bi .neq .i64 (.t 5) (.k (.int .i64 1)))])
 (.cond (.t 6) (.seq (.rg [Io 7 (.bld [.str [],.str [],.str [],.str [],.sl .nil 6 []] []),⟨none,none,.st 5 (.t 2) (.t 7),[]⟩,zh 3 false])
 .ret) .skip))
 (.seq (.reg [0,1,2,3,4,5,6,7,8,9,10,11,12,13,14,15,16,17,18,19] [Im 8 0,zk 9 8,If 10 0 9,Il 11 1 10,Im 12 0,zk 13 12,If 14 1 13,If 15 1 14,Il 16 1 15,Im 17 0,zk 18 17,If 19 9 18,Il 20 1 19,Io 21 (.ia 2 (.t 20) (.k (.int .i64 0))),zc 22 2 21,Io 23 (.call 376 [(.t 11),(.t 16),(.t 22)]),zr 24 23 0,zr 25 23 1,⟨none,none,.st 5 (.t 2) (.t 24),[]⟩,Im 3 25])
 .ret))⟩
theorem ck240:za Tryz.prog 240 ir240=true:=by kernel_rfl
def ir241:zf:=⟨36,3,[.t 6],.seq (.rg [zp 4 1,zp 5 2,zh 6 false])
 (.seq (.seq (.rg [Im 8 0,Io 9 (.call 136 [(.t 8)]),Io 10 (.bi .neq .i64 (.t 9) (.k (.int .i64 1)))])
 (.cond (.t 10) (.seq (.rg [zh 6 false])
 .ret) .skip))
 (.seq (.rg [Im 11 0,zk 12 11,If 13 9 12,Il 14 1 13,Io 15 (.ia 2 (.t 14) (.k (.int .i64 0))),zc 16 2 15,Io 7 (.alloc [.str [],.sl .nil 7 []]),⟨none,none,.st 2 (.t 7) (.t 16),[]⟩])
 (.seq (.rg [Im 17 0,Im 18 0,zk 19 18,If 20 9 19,Il 21 1 20,Io 22 (.sll 2 (.t 21) (some (.k (.int .i64 1))) none none),zk 23 17,If 24 9 23,⟨none,none,.st 1 (.t 24) (.t 22),[]⟩])
 (.seq (.reg [0,1,2,3,4,5,6,7,8,9,10] [Im 25 0,zk 26 25,If 27 0 26,Il 28 1 27,Im 29 0,zk 30 29,If 31 1 30,zc 32 8 31,zc 33 2 7,Io 34 (.mkfn 378 [] [(.t 4),(.t 5)]),Io 35 (.call 377 [(.t 28),(.t 32),(.t 33),(.t 34)])])
 (.seq (.rg [zh 6 true])
 .ret)))))⟩
theorem ck241:za Tryz.prog 241 ir241=true:=by kernel_rfl
def ir242:zf:=⟨8,1,[],.seq (.rg [Im 2 0,Io 3 (.isnn .p (.t 2))])
 (.cond (.t 3) (.rg [Im 4 0,Io 5 (.mkm (.agg [.s,.s])),zk 6 4,If 7 0 6,⟨none,none,.st 1 (.t 7) (.t 5),[]⟩]) .skip)⟩
theorem ck242:za Tryz.prog 242 ir242=true:=by kernel_rfl
def ir243:zf:=⟨40,2,[.c 4 5 true,.t 5],.seq (.rg [zp 3 1,Io 4 (.alloc [.int .i64 0,.int .i64 0,.str [],.sl .nil 5 [],.sl .nil 6 []]),zj 5 0])
 (.seq (.seq (.rg [Im 9 0,Io 10 (.isnil .p (.t 9))])
 (.cond (.t 10) (.seq (.rg [Io 11 (.bld [.int .i64 0,.int .i64 0,.str [],.sl .nil 5 [],.sl .nil 6 []] []),⟨none,none,.st 5 (.t 4) (.t 11),[]⟩,zj 5 1])
 .ret) .skip))
 (.seq (.reg [0,1,2,3,4,5,6,7,8,9,10,11,12,13] [Im 13 0,zk 14 13,If 15 0 14,Il 16 1 15,zc 17 5 3,Io 18 (.call 379 [(.t 16),(.t 17)]),Im 12 18,zr 19 12 0,zr 20 12 1,zr 21 12 2,Io 7 (.alloc [.int .i64 0,.int .i64 0,.str [],.sl .nil 5 [],.sl .nil 6 []]),Im 6 19,⟨none,none,.st 5 (.t 7) (.t 20),[]⟩,Im 8 21])
 (.seq (.rg [Im 22 0,Im 23 6,zk 24 22,If 25 0 24,⟨none,none,.st 1 (.t 25) (.t 23),[]⟩])
 (.seq (.reg [0,1,2,3,4,5,6,7,8,9,10,11,12] [Im 26 0,Im 27 0,zk 28 27,If 29 1 28,Il 30 1 29,zc 31 5 3,⟨some 32,none,.call 45 [(.t 31)],[4]⟩,Io 33 (.bld [.str [],.sl .nil 1 [],.str [],.str [],.str [],.str [],.sl .nil 6 []] [(2,5,(.t 32))]),Io 34 (.bls 7 1 [.str [],.sl .nil 1 [],.str [],.str [],.str [],.str [],.sl .nil 6 []] [(0,(.t 33))]),z1 35 7 128 30 34,zk 36 26,If 37 1 36,⟨none,none,.st 1 (.t 37) (.t 35),[]⟩])
 (.seq (.rg [zc 38 5 7,Im 39 8,⟨none,none,.st 5 (.t 4) (.t 38),[]⟩,Im 5 39])
 .ret)))))⟩
theorem ck243:za Tryz.prog 243 ir243=true:=by kernel_rfl
def ir244:zf:=⟨19,2,[],.seq (.rg [zp 3 1])
 (.seq (.rg [Im 6 0,zc 7 8 3,Io 8 (.call 92 [(.t 6),(.t 7)]),zD 9 8,zj 10 0])
 (.block 0 (.loop [0,3,8,9,10] (.seq (.rg [zK 11 10 9])
 (.seq (.cond (.t 11) .skip (.exit 0))
 (.seq (.block 1 (.seq (.rg [zF 12 2 8 10,zc 13 2 12,Io 5 (.alloc [.str [],.sl .nil 7 []]),⟨none,none,.st 2 (.t 5) (.t 13),[]⟩])
 (.rg [Im 14 0,zc 15 8 3,zc 16 2 5,Io 17 (.call 377 [(.t 14),(.t 15),(.t 16),(.k (.oth .nilFunc))])])))
 (.rg [zC 18 10 1,Im 10 18])))))))⟩
theorem ck244:za Tryz.prog 244 ir244=true:=by kernel_rfl
def ir245:zf:=⟨13,1,[.t 2],.seq (.rg [Io 2 (.mv (.k (.sl .nil 2 [])))])
 (.seq (.seq (.rg [Im 5 0,Io 6 (.isnil .p (.t 5))])
 (.cond (.t 6) (.seq (.rg [Io 2 (.mv (.k (.sl .nil 2 [])))])
 .ret) .skip))
 (.seq (.rg [Im 8 0,Io 9 (.call 380 [(.t 8)]),Im 7 9,zr 10 7 0,zr 11 7 1,Im 3 10,Im 4 11])
 (.seq (.rg [Im 12 3,Im 2 12])
 .ret)))⟩
theorem ck245:za Tryz.prog 245 ir245=true:=by kernel_rfl
def ir246:zf:=⟨31,2,[.t 4],.seq (.rg [Io 4 (.mv (.k (.sl .nil 2 [])))])
 (.seq (.rg [Io 5 (.mv (.k (.sl .nil 2 [])))])
 (.seq (.seq (.rg [Im 10 1,Io 11 (.call 381 [(.t 10)]),zD 12 11,zj 13 0])
 (.block 0 (.loop [0,5,11,12,13] (.seq (.rg [zK 14 13 12])
 (.seq (.cond (.t 14) .skip (.exit 0))
 (.seq (.block 1 (.seq (.rg [zF 15 2 11 13,zc 16 2 15,Io 7 (.alloc [.str [],.str []]),⟨none,none,.st 2 (.t 7) (.t 16),[]⟩])
 (.seq (.rg [Im 18 0,zc 19 2 7,Io 20 (.call 249 [(.t 18),(.t 19)]),Im 17 20,zr 21 17 0,zr 22 17 1,Io 8 (.alloc [.str [],.str [],.sl .nil 6 [],.bool false,.bool false,.int .i64 0]),⟨none,none,.st 6 (.t 8) (.t 21),[]⟩,Im 9 22])
 (.seq (.rg [Im 23 9,zW 24 23])
 (.cond (.t 24) (.rg [Im 25 5,zc 26 2 7,Io 27 (.bls 2 1 [.str [],.str []] [(0,(.t 26))]),z1 28 2 32 25 27,Im 5 28]) .skip)))))
 (.rg [zC 29 13 1,Im 13 29])))))))
 (.seq (.rg [Im 30 5,Im 4 30])
 .ret)))⟩
theorem ck246:za Tryz.prog 246 ir246=true:=by kernel_rfl
def ir247:zf:=⟨26,2,[],.seq (.seq (.rg [Im 6 0,Io 7 (.isnil .p (.t 6))])
 (.cond (.t 7) .ret .skip))
 (.seq (.rg [Im 8 1,zD 9 8,zj 10 0])
 (.block 0 (.loop [0,8,9,10] (.seq (.rg [zK 11 10 9])
 (.seq (.cond (.t 11) .skip (.exit 0))
 (.seq (.block 1 (.seq (.rg [zF 12 2 8 10,zc 13 2 12,Io 5 (.alloc [.str [],.sl .nil 1 []]),⟨none,none,.st 2 (.t 5) (.t 13),[]⟩])
 (.reg [0,1,2,3,4,5,6,7,8,9,10,11] [Im 14 0,Im 15 0,zk 16 15,If 17 1 16,Il 18 1 17,zc 19 2 5,⟨some 20,none,.call 251 [(.t 19)],[4]⟩,Io 21 (.bls 2 1 [.str [],.sl .nil 1 []] [(0,(.t 20))]),z1 22 2 40 18 21,zk 23 14,If 24 1 23,⟨none,none,.st 1 (.t 24) (.t 22),[]⟩])))
 (.rg [zC 25 10 1,Im 10 25])))))))⟩
theorem ck247:za Tryz.prog 247 ir247=true:=by kernel_rfl
def ir248:zf:=⟨73,2,[.t 4],.seq (.rg [Io 4 (.mv (.k (.sl .nil 2 [])))])
 (.seq (.rg [Im 15 0,Io 16 (.mm true (.t 15) [(.k (.int .i64 1))]),Io 17 (.mm false (.t 16) [(.k (.int .i64 64))]),Im 0 17])
 (.seq (.rg [Io 5 (.mv (.k (.sl .nil 1 [])))])
 (.seq (.rg [Io 18 (.mkm (.one .s)),Im 6 18])
 (.seq (.seq (.rg [Im 19 1,Io 20 (.call 381 [(.t 19)]),zD 21 20,zj 22 0])
 (.block 0 (.loop [0,5,6,20,21,22] (.seq (.rg [zK 23 22 21])
 (.seq (.cond (.t 23) .skip (.exit 0))
 (.seq (.block 1 (.seq (.rg [zF 24 2 20 22,zc 25 2 24,Io 8 (.alloc [.str [],.str []]),⟨none,none,.st 2 (.t 8) (.t 25),[]⟩])
 (.seq (.seq (.rg [Im 27 6,If 28 0 8,Il 29 1 28,Io 30 (.lkp (.one .s) (.sl .nil 1 []) true (.t 27) (.t 29)),Im 26 30,zr 31 26 0,zr 32 26 1,Im 9 31,Im 10 32])
 (.seq (.rg [Im 33 10,zW 34 33])
 (.cond (.t 34) (.rg [Im 35 5,If 36 0 8,Il 37 1 36,Io 38 (.bls 1 1 [.str []] [(0,(.t 37))]),z1 39 1 16 35 38,Im 5 39]) .skip)))
 (.reg [0,1,2,3,4,5,6,7,8,9,10,11] [Im 40 6,If 41 0 8,Il 42 1 41,Im 43 6,If 44 0 8,Il 45 1 44,Io 46 (.lkp (.one .s) (.sl .nil 1 []) false (.t 43) (.t 45)),If 47 1 8,Il 48 1 47,Io 49 (.bls 1 1 [.str []] [(0,(.t 48))]),⟨some 50,none,.app 1 16 (.t 46) (.t 49),[2]⟩,⟨none,none,.mup (.one .s) (.t 40) (.t 42) (.t 50),[]⟩]))))
 (.rg [zC 51 22 1,Im 22 51])))))))
 (.seq (.rg [Io 11 (.alloc [.sl .nil 2 []])])
 (.seq (.seq (.rg [Im 52 5,zD 53 52,zj 54 0])
 (.block 2 (.loop [0,6,11,52,53,54] (.seq (.rg [zK 55 54 53])
 (.seq (.cond (.t 55) .skip (.exit 2))
 (.seq (.block 3 (.seq (.rg [zF 56 1 52 54,Il 57 1 56,Io 13 (.alloc [.str []]),⟨none,none,.st 1 (.t 13) (.t 57),[]⟩])
 (.seq (.rg [Im 58 6,Il 59 1 13,Io 60 (.lkp (.one .s) (.sl .nil 1 []) false (.t 58) (.t 59)),Im 61 0,Io 62 (.call 382 [(.t 60),(.t 61)])])
 (.block 4 (.rfun (.t 62) [63] (.rg [Im 14 63]) (.block 5 (.reg [0,1,2,3,4,5,6,7] [Il 64 1 11,Il 65 1 13,Im 66 14,⟨some 67,none,.call 96 [(.t 66)],[0,1]⟩,Io 68 (.bld [.str [],.sl .nil 1 []] [(0,1,(.t 65)),(1,1,(.t 67))]),Io 69 (.bls 2 1 [.str [],.sl .nil 1 []] [(0,(.t 68))]),z1 70 2 40 64 69,⟨none,none,.st 1 (.t 11) (.t 70),[]⟩])))))))
 (.rg [zC 71 54 1,Im 54 71])))))))
 (.seq (.rg [Il 72 1 11,Im 4 72])
 .ret)))))))⟩
theorem ck248:za Tryz.prog 248 ir248=true:=by kernel_rfl
def ir249:zf:=⟨23,2,[.c 4 6 true,.t 5],.seq (.rg [zp 3 1,Io 4 (.alloc [.str [],.str [],.sl .nil 6 [],.bool false,.bool false,.int .i64 0]),zh 5 false])
 (.seq (.seq (.rg [Im 8 0,Io 9 (.isnil .p (.t 8))])
 (.cond (.t 9) (.seq (.rg [Io 10 (.bld [.str [],.str [],.sl .nil 6 [],.bool false,.bool false,.int .i64 0] []),⟨none,none,.st 6 (.t 4) (.t 10),[]⟩,zh 5 false])
 .ret) .skip))
 (.seq (.reg [0,1,2,3,4,5,6,7,8,9,10,11] [Im 12 0,zk 13 12,If 14 0 13,Il 15 1 14,zc 16 2 3,Io 17 (.lkp (.agg [.s,.s]) (.agg [.str [],.str [],.sl .nil 6 [],.bool false,.bool false,.int .i64 0]) true (.t 15) (.t 16)),Im 11 17,zr 18 11 0,zr 19 11 1,Io 6 (.alloc [.str [],.str [],.sl .nil 6 [],.bool false,.bool false,.int .i64 0]),⟨none,none,.st 6 (.t 6) (.t 18),[]⟩,Im 7 19])
 (.seq (.rg [zc 20 6 6,Io 21 (.call 253 [(.t 20)]),Im 22 7,⟨none,none,.st 6 (.t 4) (.t 21),[]⟩,Im 5 22])
 .ret)))⟩
theorem ck249:za Tryz.prog 249 ir249=true:=by kernel_rfl
def ir250:zf:=⟨50,2,[.t 4],.seq (.rg [zh 4 false])
 (.seq (.seq (.rg [Im 10 0,Io 11 (.call 136 [(.t 10)]),Io 12 (.bi .neq .i64 (.t 11) (.k (.int .i64 3)))])
 (.cond (.t 12) (.seq (.rg [zh 4 false])
 .ret) .skip))
 (.seq (.rg [Im 14 0,Io 15 (.call 380 [(.t 14)]),Im 13 15,zr 16 13 0,zr 17 13 1,Im 5 16,Im 6 17])
 (.seq (.seq (.rg [Im 18 1,zD 19 18,Im 20 5,zD 21 20,Io 22 (.bi .neq .i64 (.t 19) (.t 21))])
 (.cond (.t 22) (.seq (.rg [zh 4 false])
 .ret) .skip))
 (.seq (.rg [Im 23 0,zk 24 23,If 25 11 24,Il 26 1 25,Im 7 26])
 (.seq (.rg [Im 27 0,zk 28 27,If 29 11 28,⟨none,none,.st 1 (.t 29) (.k (.sl .nil 8 [])),[]⟩])
 (.seq (.seq (.rg [Im 30 7,zD 31 30,zj 32 0])
 (.block 0 (.loop [0,1,6,30,31,32] (.seq (.rg [zK 33 32 31])
 (.seq (.cond (.t 33) .skip (.exit 0))
 (.seq (.block 1 (.seq (.rg [zF 34 8 30 32,zc 35 8 34,Io 9 (.alloc [.str [],.str [],.nilp,.str [],.int .i64 0,.int .i64 0,.sl .nil 7 [],.sl .nil 2 []]),⟨none,none,.st 8 (.t 9) (.t 35),[]⟩])
 (.reg [0,1,2,3,4,5,6,7,8,9,10,11,12] [Im 36 0,zk 37 36,If 38 0 37,Il 39 1 38,zc 40 8 9,Im 41 1,Im 42 6,If 43 0 9,zc 44 2 43,Io 45 (.lkp (.agg [.s,.s]) (.int .i64 0) false (.t 42) (.t 44)),zF 46 6 41 45,zc 47 6 46,Io 48 (.call 383 [(.t 39),(.t 40),(.t 47)])])))
 (.rg [zC 49 32 1,Im 32 49])))))))
 (.seq (.rg [zh 4 true])
 .ret)))))))⟩
theorem ck250:za Tryz.prog 250 ir250=true:=by kernel_rfl
def ir251:zf:=⟨8,1,[.c 2 2 true],.seq (.rg [Io 1 (.box (.t 0)),Io 2 (.alloc [.str [],.sl .nil 1 []])])
 (.seq (.rg [If 3 1 1,Il 4 1 3,Io 5 (.call 96 [(.t 4)]),If 6 1 1,⟨none,none,.st 1 (.t 6) (.t 5),[]⟩])
 (.seq (.rg [zc 7 2 1,⟨none,none,.st 2 (.t 2) (.t 7),[]⟩])
 .ret))⟩
theorem ck251:za Tryz.prog 251 ir251=true:=by kernel_rfl
def ir252:zf:=⟨39,2,[.c 4 6 true],.seq (.rg [zp 3 1,Io 4 (.alloc [.str [],.str [],.sl .nil 6 [],.bool false,.bool false,.int .i64 0])])
 (.seq (.rg [Im 8 0,If 9 0 3,Il 10 1 9,If 11 1 3,Il 12 1 11,Io 13 (.call 384 [(.t 8),(.t 10),(.t 12)]),Im 7 13,zr 14 7 0,zr 15 7 1,Im 5 14,Im 6 15])
 (.seq (.seq (.rg [Im 16 6,Io 17 (.bi .lss .i64 (.t 16) (.k (.int .i64 0)))])
 (.cond (.t 17) (.seq (.rg [Io 18 (.bld [.str [],.str [],.sl .nil 6 [],.bool false,.bool false,.int .i64 0] []),⟨none,none,.st 6 (.t 4) (.t 18),[]⟩])
 .ret) .skip))
 (.seq (.seq (.rg [Im 19 0,Im 20 5,zF 21 2 19 20,If 22 1 21,Il 23 1 22,Im 24 6,zF 25 4 23 24,If 26 3 25,Il 27 1 26])
 (.cond (.t 27) (.seq (.rg [Io 28 (.bld [.str [],.str [],.sl .nil 6 [],.bool false,.bool false,.int .i64 0] [(5,1,(.k (.int .i64 10)))]),⟨none,none,.st 6 (.t 4) (.t 28),[]⟩])
 .ret) .skip))
 (.seq (.rg [Im 29 0,Im 30 5,zF 31 2 29 30,If 32 1 31,Il 33 1 32,Im 34 6,zF 35 4 33 34,zc 36 4 35,Io 37 (.call 95 [(.t 36)]),Io 38 (.bld [.str [],.str [],.sl .nil 6 [],.bool false,.bool false,.int .i64 0] [(0,4,(.t 37)),(4,1,(.k (.bool true)))]),⟨none,none,.st 6 (.t 4) (.t 38),[]⟩])
 .ret))))⟩
theorem ck252:za Tryz.prog 252 ir252=true:=by kernel_rfl
def ir253:zf:=⟨10,1,[.c 2 6 true],.seq (.rg [Io 1 (.box (.t 0)),Io 2 (.alloc [.str [],.str [],.sl .nil 6 [],.bool false,.bool false,.int .i64 0])])
 (.seq (.rg [If 3 0 1,If 4 2 3,Il 5 1 4,Io 6 (.call 85 [(.t 5)]),If 7 0 1,If 8 2 7,⟨none,none,.st 1 (.t 8) (.t 6),[]⟩])
 (.seq (.rg [zc 9 6 1,⟨none,none,.st 6 (.t 2) (.t 9),[]⟩])
 .ret))⟩
theorem ck253:za Tryz.prog 253 ir253=true:=by kernel_rfl
def ir254:zf:=⟨60,1,[.c 2 5 true],.seq (.rg [zp 1 0,Io 2 (.alloc [.int .i64 0,.int .i64 0,.str [],.sl .nil 5 [],.sl .nil 6 []])])
 (.scope (.seq (.rg [Io 3 (.alloc [.int .i64 0,.int .i64 0,.str [],.sl .nil 5 [],.sl .nil 6 []])])
 (.seq (.seq (.rg [If 8 0 1,Il 9 1 8])
 (.block 0 (.seq (.rg [zN 12 9 0,Im 11 12])
 (.cond (.t 11) (.seq (.rg [If 13 2 1,zc 14 5 13,⟨none,none,.st 5 (.t 2) (.t 14),[]⟩])
 .ret) (.seq (.rg [zN 16 9 1,Im 15 16])
 (.cond (.t 15) (.rg [If 17 0 3,⟨none,none,.st 1 (.t 17) (.k (.int .i64 6)),[]⟩]) (.seq (.rg [zN 19 9 2,Im 18 19])
 (.cond (.t 18) (.rg [If 20 0 3,⟨none,none,.st 1 (.t 20) (.k (.int .i64 7)),[]⟩]) (.seq (.rg [zc 10 5 3,⟨none,none,.st 5 (.t 2) (.t 10),[]⟩])
 .ret)))))))))
 (.seq .skip
 (.seq (.seq (.rg [If 21 8 1,Il 22 1 21,zD 23 22,zj 24 0])
 (.block 1 (.loop [1,2,3,22,23,24] (.seq (.rg [zK 25 24 23])
 (.seq (.cond (.t 25) .skip (.exit 1))
 (.seq (.block 2 (.seq (.rg [Im 26 24,zF 27 9 22 24,zc 28 9 27,Io 5 (.alloc [.int .i64 0,.bool false,.int .i64 0,.int .i64 0,.str [],.sl .nil 5 [],.sl .nil 6 [],.sl .nil 1 [],.sl .nil 9 []]),Im 4 26,⟨none,none,.st 9 (.t 5) (.t 28),[]⟩])
 (.seq (.rg [zc 30 9 5,Io 31 (.call 143 [(.t 30)]),Im 29 31,zr 32 29 0,zr 33 29 1,Io 6 (.alloc [.int .i64 0,.int .i64 0,.str [],.sl .nil 5 [],.sl .nil 6 []]),⟨none,none,.st 5 (.t 6) (.t 32),[]⟩,Im 7 33])
 (.seq (.block 3 (.seq (.rg [Im 35 7,zW 36 35,Im 34 36])
 (.cond (.t 34) (.seq (.rg [Io 37 (.bld [.int .i64 0,.int .i64 0,.str [],.sl .nil 5 [],.sl .nil 6 []] []),⟨none,none,.st 5 (.t 2) (.t 37),[]⟩])
 .ret) (.seq (.rg [If 39 0 1,Il 40 1 39,zN 41 40 2,Im 38 41])
 (.cond (.t 38) (.seq (.reg [0,1,2,3,5,4,6,7,8,9,10] [If 42 4 3,Il 43 1 42,zc 44 9 1,Im 45 4,zc 47 5 6,⟨some 46,none,.call 385 [(.t 44),(.t 45)],[1,4]⟩,Io 48 (.bld [.str [],.int .i64 0,.int .i64 0,.str [],.sl .nil 5 [],.sl .nil 6 []] [(0,1,(.t 46)),(1,5,(.t 47))]),Io 49 (.bls 6 1 [.str [],.int .i64 0,.int .i64 0,.str [],.sl .nil 5 [],.sl .nil 6 []] [(0,(.t 48))]),z1 50 6 96 43 49,If 51 4 3,⟨none,none,.st 1 (.t 51) (.t 50),[]⟩])
 (.exit 2)) .skip)))))
 (.rg [If 52 3 3,Il 53 1 52,zc 54 5 6,Io 55 (.bls 5 1 [.int .i64 0,.int .i64 0,.str [],.sl .nil 5 [],.sl .nil 6 []] [(0,(.t 54))]),z1 56 5 80 53 55,If 57 3 3,⟨none,none,.st 1 (.t 57) (.t 56),[]⟩])))))
 (.rg [zC 58 24 1,Im 24 58])))))))
 (.seq (.rg [zc 59 5 3,⟨none,none,.st 5 (.t 2) (.t 59),[]⟩])
 .ret))))))⟩
theorem ck254:za Tryz.prog 254 ir254=true:=by kernel_rfl
def ir257:zf:=⟨10,2,[.t 4],.seq (.rg [zp 2 0,zp 3 1,zj 4 0])
 (.seq (.rg [If 5 0 2,Il 6 1 5,If 7 0 3,Il 8 1 7,Io 9 (.call 258 [(.t 6),(.t 8),(.k (.clo 259 [] []))]),Im 4 9])
 .ret)⟩
theorem ck257:za Tryz.prog 257 ir257=true:=by kernel_rfl
def ir259:zf:=⟨32,2,[.t 4],.seq (.rg [zp 2 0,zp 3 1,zj 4 0])
 (.seq (.block 0 (.seq (.rg [If 6 0 2,Il 7 1 6,Io 8 (.bs .eql (.t 7) (.k (.str []))),Im 9 8,Ja 10 9 0 3,Jl 11 9 1 10,Jt 12 9 (.bs .eql (.t 11) (.k (.str []))),zI 13 9 12,Im 5 13])
 (.cond (.t 5) (.seq (.rg [If 14 1 2,Il 15 1 14,If 16 1 3,Il 17 1 16,Io 18 (.call 387 [(.t 15),(.t 17)]),Im 4 18])
 .ret) (.seq (.rg [If 20 0 2,Il 21 1 20,Io 22 (.bs .eql (.t 21) (.k (.str []))),Im 19 22])
 (.cond (.t 19) (.seq (.rg [Io 4 (.mv (.k (.int .i64 (-1))))])
 .ret) (.seq (.rg [If 24 0 3,Il 25 1 24,Io 26 (.bs .eql (.t 25) (.k (.str []))),Im 23 26])
 (.cond (.t 23) (.seq (.rg [zj 4 1])
 .ret) .skip)))))))
 (.seq (.rg [If 27 0 2,Il 28 1 27,If 29 0 3,Il 30 1 29,Io 31 (.call 388 [(.t 28),(.t 30)]),Im 4 31])
 .ret))⟩
theorem ck259:za Tryz.prog 259 ir259=true:=by kernel_rfl
def ir262:zf:=⟨34,2,[.t 4],.seq (.rg [Io 4 (.mv (.k (.sl .nil 1 [])))])
 (.seq (.seq (.rg [Im 7 1,zD 8 7,zj 9 0])
 (.block 0 (.loop [0,7,8,9] (.seq (.rg [zK 10 9 8])
 (.seq (.cond (.t 10) .skip (.exit 0))
 (.seq (.block 1 (.seq (.rg [zF 11 7 7 9,zc 12 7 11,Io 6 (.alloc [.int .i64 0,.str [],.str [],.sl .nil 6 [],.sl .nil 2 [],.str [],.sl .nil 7 []]),⟨none,none,.st 7 (.t 6) (.t 12),[]⟩])
 (.seq (.seq (.rg [If 13 0 6,Il 14 1 13,zN 15 14 1,Im 16 15,Jm 17 16 0,Ja 18 16 2 6,Jl 19 16 1 18,Jt 20 16 (.call 148 [(.t 17),(.t 19)]),Jt 21 16 (.not (.t 20)),zI 22 16 21])
 (.cond (.t 22) (.rg [Im 23 0,If 24 2 6,Il 25 1 24,Io 26 (.bls 1 1 [.str []] [(0,(.t 25))]),z1 27 1 16 23 26,Im 0 27]) .skip))
 (.rg [Im 28 0,If 29 6 6,Il 30 1 29,Io 31 (.call 262 [(.t 28),(.t 30)]),Im 0 31]))))
 (.rg [zC 32 9 1,Im 9 32])))))))
 (.seq (.rg [Im 33 0,Im 4 33])
 .ret))⟩
theorem ck262:za Tryz.prog 262 ir262=true:=by kernel_rfl
def ir263:zf:=⟨19,2,[.c 4 4 true,.t 5],.seq (.rg [zp 2 0,zp 3 1,Io 4 (.alloc [.str [],.str [],.sl .nil 2 [],.sl .nil 7 []]),zh 5 false])
 (.seq (.rg [If 7 1 2,Il 8 1 7,Io 9 (.mkfn 389 [] [(.t 3)]),Io 10 (.call 260 [(.t 8),(.t 9)]),Im 6 10])
 (.seq (.seq (.rg [Im 11 6,Io 12 (.bi .lss .i64 (.t 11) (.k (.int .i64 0)))])
 (.cond (.t 12) (.seq (.rg [Io 13 (.bld [.str [],.str [],.sl .nil 2 [],.sl .nil 7 []] []),⟨none,none,.st 4 (.t 4) (.t 13),[]⟩,zh 5 false])
 .ret) .skip))
 (.seq (.rg [If 14 1 2,Il 15 1 14,Im 16 6,zF 17 4 15 16,zc 18 4 17,⟨none,none,.st 4 (.t 4) (.t 18),[]⟩,zh 5 true])
 .ret)))⟩
theorem ck263:za Tryz.prog 263 ir263=true:=by kernel_rfl
def ir264:zf:=⟨51,2,[],.scope (.seq .skip
 (.seq (.rg [Im 6 1,zD 7 6,zj 8 0])
 (.block 0 (.loop [0,6,7,8] (.seq (.rg [zK 9 8 7])
 (.seq (.cond (.t 9) .skip (.exit 0))
 (.seq (.block 1 (.seq (.rg [zF 10 7 6 8,zc 11 7 10,Io 5 (.alloc [.int .i64 0,.str [],.str [],.sl .nil 6 [],.sl .nil 2 [],.str [],.sl .nil 7 []]),⟨none,none,.st 7 (.t 5) (.t 11),[]⟩])
 (.seq (.seq (.reg [0,1,2,3,4,5,6,7] [Im 12 0,zk 13 12,If 14 5 13,Il 15 1 14,If 16 4 5,Il 17 1 16,Io 18 (.call 390 [(.t 15),(.t 17)]),zW 19 18])
 (.cond (.t 19) (.exit 1) .skip))
 (.seq (.rg [If 20 0 5,Il 21 1 20])
 (.block 2 (.seq (.rg [zN 23 21 0,Im 22 23])
 (.cond (.t 22) (.rg [Im 24 0,zc 25 7 5,Io 26 (.call 391 [(.t 24),(.t 25)])]) (.seq (.rg [zN 28 21 1,Im 27 28])
 (.cond (.t 27) (.rg [Im 29 0,If 30 2 5,Il 31 1 30,Io 32 (.call 392 [(.t 29),(.t 31)])]) (.seq (.rg [zN 34 21 2,Im 33 34])
 (.cond (.t 33) (.seq (.reg [0,1,2,3,4,5,6,7,8,9,10] [Im 35 0,zk 36 35,If 37 0 36,zc 38 3 37,Im 39 0,zk 40 39,If 41 6 40,Il 42 1 41,If 43 5 5,Il 44 1 43,Io 45 (.call 393 [(.t 38),(.t 42),(.t 44)])])
 (.cond (.t 45) (.rg [Im 46 0,If 47 6 5,Il 48 1 47,Io 49 (.call 264 [(.t 46),(.t 48)])]) .skip)) .skip)))))))))))
 (.rg [zC 50 8 1,Im 8 50]))))))))⟩
theorem ck264:za Tryz.prog 264 ir264=true:=by kernel_rfl
def ir313:zf:=⟨17,2,[.c 4 10 true,.t 5],.seq (.rg [zp 3 1,Io 4 (.alloc [.str [],.str [],.int .i64 0,.int .i64 0,.bool false,.int .i64 0,.int .i64 0,.str [],.sl .nil 5 [],.sl .nil 6 []]),zh 5 false])
 (.seq (.rg [Im 7 0,Io 8 (.mkfn 419 [] [(.t 3)]),Io 9 (.call 418 [(.t 7),(.t 8)]),Im 6 9])
 (.seq (.seq (.rg [Im 10 6,Io 11 (.bi .lss .i64 (.t 10) (.k (.int .i64 0)))])
 (.cond (.t 11) (.seq (.rg [Io 12 (.bld [.str [],.str [],.int .i64 0,.int .i64 0,.bool false,.int .i64 0,.int .i64 0,.str [],.sl .nil 5 [],.sl .nil 6 []] []),⟨none,none,.st 10 (.t 4) (.t 12),[]⟩,zh 5 false])
 .ret) .skip))
 (.seq (.rg [Im 13 0,Im 14 6,zF 15 10 13 14,zc 16 10 15,⟨none,none,.st 10 (.t 4) (.t 16),[]⟩,zh 5 true])
 .ret)))⟩
theorem ck313:za Tryz.prog 313 ir313=true:=by kernel_rfl
def ir316:zf:=⟨28,2,[.t 4],.seq (.rg [Io 4 (.mv (.k (.sl .nil 6 [])))])
 (.seq (.rg [Im 8 0,Io 9 (.call 185 [(.t 8)]),Im 5 9])
 (.seq (.seq (.rg [Im 11 5,Im 12 1,Io 13 (.call 59 [(.t 11),(.t 12)]),Im 10 13,zr 14 10 0,zr 15 10 1,Io 6 (.alloc [.int .i64 0,.int .i64 0,.str [],.sl .nil 5 [],.sl .nil 6 []]),⟨none,none,.st 5 (.t 6) (.t 14),[]⟩,Im 7 15])
 (.seq (.rg [Im 16 7])
 (.cond (.t 16) (.rg [Im 17 0,Io 18 (.call 117 [(.t 17),(.k (.int .i64 5))])]) .skip)))
 (.seq (.rg [Im 19 0,Io 20 (.call 189 [(.t 19),(.k (.str [58]))])])
 (.seq (.rg [Im 21 1,Im 22 5,Im 23 0,Io 24 (.call 115 [(.t 23)]),Io 25 (.bld [.str [],.int .i64 0,.int .i64 0,.str [],.sl .nil 5 [],.sl .nil 6 []] [(0,1,(.t 22)),(1,5,(.t 24))]),Io 26 (.bls 6 1 [.str [],.int .i64 0,.int .i64 0,.str [],.sl .nil 5 [],.sl .nil 6 []] [(0,(.t 25))]),z1 27 6 96 21 26,Im 4 27])
 .ret))))⟩
theorem ck316:za Tryz.prog 316 ir316=true:=by kernel_rfl
def ir317:zf:=⟨5,1,[.t 2],.seq (.rg [zh 2 false])
 (.seq (.rg [Im 3 0,Io 4 (.bi .geq .u8 (.t 3) (.k (.int .u8 32))),Im 2 4])
 .ret)⟩
theorem ck317:za Tryz.prog 317 ir317=true:=by kernel_rfl
def ir331:zf:=⟨9,2,[.t 3],.seq (.rg [zp 2 0,zh 3 false])
 (.seq (.rg [zc 4 3 1,If 5 1 2,Il 6 1 5,Io 7 (.call 177 [(.t 4),(.t 6)]),zW 8 7,Im 3 8])
 .ret)⟩
theorem ck331:za Tryz.prog 331 ir331=true:=by kernel_rfl
def ir333:zf:=⟨35,1,[.t 2],.seq (.rg [zp 1 0,Io 2 (.mv (.k (.sl .nil 1 [])))])
 (.seq (.rg [Io 3 (.mv (.k (.sl .nil 1 [])))])
 (.seq (.seq (.rg [If 8 0 1,Il 9 1 8,zD 10 9,zj 11 0])
 (.block 0 (.loop [1,3,9,10,11] (.seq (.rg [zK 12 11 10])
 (.seq (.cond (.t 12) .skip (.exit 0))
 (.seq (.block 1 (.seq (.rg [zF 13 5 9 11,zc 14 5 13,Io 5 (.alloc [.int .i64 0,.str [],.sl .nil 10 [],.sl .nil 2 [],.sl .nil 7 []]),⟨none,none,.st 5 (.t 5) (.t 14),[]⟩])
 (.rg [Im 15 3,If 16 4 5,Il 17 1 16,Io 18 (.bls 1 1 [.sl .nil 7 []] [(0,(.t 17))]),z1 19 1 24 15 18,Im 3 19])))
 (.rg [zC 20 11 1,Im 11 20])))))))
 (.seq (.seq (.rg [If 21 1 1,Il 22 1 21,zD 23 22,zj 24 0])
 (.block 2 (.loop [3,22,23,24] (.seq (.rg [zK 25 24 23])
 (.seq (.cond (.t 25) .skip (.exit 2))
 (.seq (.block 3 (.seq (.rg [zF 26 4 22 24,zc 27 4 26,Io 7 (.alloc [.str [],.str [],.sl .nil 2 [],.sl .nil 7 []]),⟨none,none,.st 4 (.t 7) (.t 27),[]⟩])
 (.rg [Im 28 3,If 29 3 7,Il 30 1 29,Io 31 (.bls 1 1 [.sl .nil 7 []] [(0,(.t 30))]),z1 32 1 24 28 31,Im 3 32])))
 (.rg [zC 33 24 1,Im 24 33])))))))
 (.seq (.rg [Im 34 3,Im 2 34])
 .ret))))⟩
theorem ck333:za Tryz.prog 333 ir333=true:=by kernel_rfl
def ir334:zf:=⟨8,2,[.t 3],.seq (.rg [zh 3 false])
 (.seq (.rg [zc 4 3 1,Im 5 0,Io 6 (.call 335 [(.t 4),(.t 5)]),zW 7 6,Im 3 7])
 .ret)⟩
theorem ck334:za Tryz.prog 334 ir334=true:=by kernel_rfl
def ir335:zf:=⟨9,2,[.t 4],.seq (.rg [zp 2 0,zh 4 false])
 (.seq (.rg [Im 5 1,Io 6 (.mkfn 431 [] [(.t 2)]),Io 7 (.call 430 [(.t 5),(.t 6)]),zW 8 7,Im 4 8])
 .ret)⟩
theorem ck335:za Tryz.prog 335 ir335=true:=by kernel_rfl
def ir336:zf:=⟨8,2,[.t 3],.seq (.rg [zh 3 false])
 (.seq (.rg [Im 4 0,Io 5 (.call 262 [(.k (.sl .nil 1 [])),(.t 4)]),Io 6 (.mkfn 337 [] [(.t 1)]),Io 7 (.call 283 [(.t 5),(.t 6)]),Im 3 7])
 .ret)⟩
theorem ck336:za Tryz.prog 336 ir336=true:=by kernel_rfl
def ir337:zf:=⟨14,2,[.t 3],.seq (.rg [zh 3 false])
 (.seq (.rg [zc 7 2 1,Im 8 0,Io 9 (.call 263 [(.t 7),(.t 8)]),Im 6 9,zr 10 6 0,zr 11 6 1,Io 4 (.alloc [.str [],.str [],.sl .nil 2 [],.sl .nil 7 []]),⟨none,none,.st 4 (.t 4) (.t 10),[]⟩,Im 5 11])
 (.seq (.rg [Im 12 5,zW 13 12,Im 3 13])
 .ret))⟩
theorem ck337:za Tryz.prog 337 ir337=true:=by kernel_rfl
def ir338:zf:=⟨9,2,[.t 3],.seq (.rg [zp 2 0,zh 3 false])
 (.seq (.rg [Il 4 1 1,If 5 0 2,Il 6 1 5,Io 7 (.call 148 [(.t 4),(.t 6)]),zW 8 7,Im 3 8])
 .ret)⟩
theorem ck338:za Tryz.prog 338 ir338=true:=by kernel_rfl
def ir339:zf:=⟨37,4,[.t 8],.seq (.rg [zp 4 0,zh 8 false])
 (.scope (.seq (.rg [zh 9 true])
 (.seq .skip
 (.seq (.seq (.rg [Im 12 2,zD 13 12,zj 14 0])
 (.block 0 (.loop [1,3,4,9,12,13,14] (.seq (.rg [zK 15 14 13])
 (.seq (.cond (.t 15) .skip (.exit 0))
 (.seq (.block 1 (.seq (.rg [zF 16 7 12 14,zc 17 7 16,Io 11 (.alloc [.int .i64 0,.str [],.str [],.sl .nil 6 [],.sl .nil 2 [],.str [],.sl .nil 7 []]),⟨none,none,.st 7 (.t 11) (.t 17),[]⟩])
 (.seq (.reg [0,1,2,3,4,5,6,7,8,10,11,12,9,13,14,15] [Im 18 3,Im 19 1,zc 20 7 11,Io 21 (.callv (.t 18) [(.t 19),(.t 20)]),Im 22 21,Jt 23 22 (.ld 3 true (.t 4)),Jt 24 22 (.ld 3 true (.t 4)),Jm 25 22 1,Jt 26 22 (.ld 7 true (.t 11)),Ja 28 22 6 11,Jl 29 22 1 28,Jm 30 22 3,⟨some 27,(some (22,true)),.call 341 [(.t 24),(.t 25),(.t 26)],[5,10]⟩,Jt 31 22 (.call 339 [(.t 23),(.t 27),(.t 29),(.t 30)]),zI 32 22 31,Im 9 32])
 (.seq (.rg [Im 33 9,zW 34 33])
 (.cond (.t 34) (.exit 0) .skip)))))
 (.rg [zC 35 14 1,Im 14 35])))))))
 (.seq (.rg [Im 36 9,Im 8 36])
 .ret)))))⟩
theorem ck339:za Tryz.prog 339 ir339=true:=by kernel_rfl
def ir341:zf:=⟨40,3,[.t 6],.seq (.rg [zp 3 0,zp 5 2,Io 6 (.mv (.k (.str [])))])
 (.seq (.block 0 (.seq (.rg [If 10 0 5,Il 11 1 10,zN 12 11 0,Im 9 12])
 (.cond (.t 9) (.seq (.rg [zc 14 3 3,Im 15 1,If 16 2 5,Il 17 1 16,Io 18 (.call 340 [(.t 14),(.t 15),(.t 17)]),Im 13 18,zr 19 13 0,zr 20 13 1,Io 7 (.alloc [.str [],.sl .nil 10 [],.str [],.int .i64 0,.int .i64 0,.sl .nil 2 []]),⟨none,none,.st 6 (.t 7) (.t 19),[]⟩,Im 8 20])
 (.seq (.rg [If 21 2 7,If 22 0 21,Il 23 1 22,Im 6 23])
 .ret)) (.seq (.rg [If 25 0 5,Il 26 1 25,zN 27 26 2,Im 28 27,Ja 29 28 5 5,Jl 30 28 1 29,Jt 31 28 (.bs .neq (.t 30) (.k (.str []))),zI 32 28 31,Im 24 32])
 (.cond (.t 24) (.seq (.rg [If 33 5 5,Il 34 1 33,Im 6 34])
 .ret) (.seq (.rg [If 36 0 5,Il 37 1 36,zN 38 37 2,Im 35 38])
 (.cond (.t 35) (.seq (.rg [Im 39 1,Im 6 39])
 .ret) .skip)))))))
 (.seq (.rg [Io 6 (.mv (.k (.str [])))])
 .ret))⟩
theorem ck341:za Tryz.prog 341 ir341=true:=by kernel_rfl
def ir343:zf:=⟨35,1,[.t 2],.seq (.rg [zp 1 0,Io 2 (.mv (.k (.sl .nil 1 [])))])
 (.seq (.rg [Io 3 (.mv (.k (.sl .nil 1 [])))])
 (.seq (.seq (.rg [If 8 0 1,Il 9 1 8,zD 10 9,zj 11 0])
 (.block 0 (.loop [1,3,9,10,11] (.seq (.rg [zK 12 11 10])
 (.seq (.cond (.t 12) .skip (.exit 0))
 (.seq (.block 1 (.seq (.rg [zF 13 5 9 11,zc 14 5 13,Io 5 (.alloc [.int .i64 0,.str [],.sl .nil 10 [],.sl .nil 2 [],.sl .nil 7 []]),⟨none,none,.st 5 (.t 5) (.t 14),[]⟩])
 (.rg [Im 15 3,If 16 3 5,Il 17 1 16,Io 18 (.bls 1 1 [.sl .nil 2 []] [(0,(.t 17))]),z1 19 1 24 15 18,Im 3 19])))
 (.rg [zC 20 11 1,Im 11 20])))))))
 (.seq (.seq (.rg [If 21 1 1,Il 22 1 21,zD 23 22,zj 24 0])
 (.block 2 (.loop [3,22,23,24] (.seq (.rg [zK 25 24 23])
 (.seq (.cond (.t 25) .skip (.exit 2))
 (.seq (.block 3 (.seq (.rg [zF 26 4 22 24,zc 27 4 26,Io 7 (.alloc [.str [],.str [],.sl .nil 2 [],.sl .nil 7 []]),⟨none,none,.st 4 (.t 7) (.t 27),[]⟩])
 (.rg [Im 28 3,If 29 2 7,Il 30 1 29,Io 31 (.bls 1 1 [.sl .nil 2 []] [(0,(.t 30))]),z1 32 1 24 28 31,Im 3 32])))
 (.rg [zC 33 24 1,Im 24 33])))))))
 (.seq (.rg [Im 34 3,Im 2 34])
 .ret))))⟩
theorem ck343:za Tryz.prog 343 ir343=true:=by kernel_rfl
def ir344:zf:=⟨13,1,[.c 2 10 true,.t 3],.seq (.rg [Io 2 (.alloc [.str [],.str [],.int .i64 0,.int .i64 0,.bool false,.int .i64 0,.int .i64 0,.str [],.sl .nil 5 [],.sl .nil 6 []]),zh 3 false])
 (.seq (.seq (.rg [Im 4 0,Io 5 (.bs .neq (.t 4) (.k (.str [115,107,105,112]))),Im 6 5,Jm 7 6 0,Jt 8 6 (.bs .neq (.t 7) (.k (.str [105,110,99,108,117,100,101]))),zI 9 6 8])
 (.cond (.t 9) (.seq (.rg [Io 10 (.bld [.str [],.str [],.int .i64 0,.int .i64 0,.bool false,.int .i64 0,.int .i64 0,.str [],.sl .nil 5 [],.sl .nil 6 []] []),⟨none,none,.st 10 (.t 2) (.t 10),[]⟩,zh 3 false])
 .ret) .skip))
 (.seq (.rg [Io 11 (.bld [.str [],.int .i64 0,.int .i64 0] [(0,1,(.k (.str [66,111,111,108,101,97,110]))),(2,1,(.k (.int .i64 1)))]),Io 12 (.bld [.str [],.str [],.int .i64 0,.int .i64 0,.bool false,.int .i64 0,.int .i64 0,.str [],.sl .nil 5 [],.sl .nil 6 []] [(0,1,(.k (.str [105,102]))),(1,3,(.t 11))]),⟨none,none,.st 10 (.t 2) (.t 12),[]⟩,zh 3 true])
 .ret))⟩
theorem ck344:za Tryz.prog 344 ir344=true:=by kernel_rfl
def ir345:zf:=⟨10,3,[.t 5],.seq (.rg [zp 4 1,zh 5 false])
 (.seq (.rg [Il 6 1 2,If 7 4 4,Il 8 1 7,Io 9 (.callv (.t 6) [(.t 8)]),Im 5 9])
 .ret)⟩
theorem ck345:za Tryz.prog 345 ir345=true:=by kernel_rfl
def ir346:zf:=⟨44,4,[.t 6],.seq (.rg [zp 5 1,zh 6 false])
 (.seq (.seq (.rg [If 11 0 5,Il 12 1 11,zN 13 12 0])
 (.cond (.t 13) (.seq (.rg [zc 15 3 2,Im 16 0,If 17 2 5,Il 18 1 17,Io 19 (.call 340 [(.t 15),(.t 16),(.t 18)]),Im 14 19,zr 20 14 0,zr 21 14 1,Io 7 (.alloc [.str [],.sl .nil 10 [],.str [],.int .i64 0,.int .i64 0,.sl .nil 2 []]),⟨none,none,.st 6 (.t 7) (.t 20),[]⟩,Im 8 21])
 (.seq (.rg [Il 22 1 3,If 23 1 7,Il 24 1 23,If 25 3 5,Il 26 1 25,Io 27 (.callv (.t 22) [(.t 24),(.t 26)]),zW 28 27])
 (.cond (.t 28) (.seq (.rg [zh 6 false])
 .ret) .skip))) .skip))
 (.seq (.seq (.rg [If 29 4 5,Il 30 1 29,zD 31 30,zj 32 0])
 (.block 0 (.loop [3,30,31,32] (.seq (.rg [zK 33 32 31])
 (.seq (.cond (.t 33) .skip (.exit 0))
 (.seq (.block 1 (.seq (.rg [zF 34 2 30 32,zc 35 2 34,Io 10 (.alloc [.str [],.sl .nil 6 []]),⟨none,none,.st 2 (.t 10) (.t 35),[]⟩])
 (.seq (.reg [0,1,3,4,2,5,6] [Il 36 1 3,zc 37 2 10,If 39 1 10,Il 40 1 39,⟨some 38,none,.call 347 [(.t 37)],[0,3]⟩,Io 41 (.callv (.t 36) [(.t 38),(.t 40)]),zW 42 41])
 (.cond (.t 42) (.seq (.rg [zh 6 false])
 .ret) .skip))))
 (.rg [zC 43 32 1,Im 32 43])))))))
 (.seq (.rg [zh 6 true])
 .ret)))⟩
theorem ck346:za Tryz.prog 346 ir346=true:=by kernel_rfl
def ir347:zf:=⟨15,1,[.t 2],.seq (.rg [zp 1 0,Io 2 (.mv (.k (.sl .nil 10 [])))])
 (.seq (.rg [If 6 0 1,Il 7 1 6,Io 8 (.call 344 [(.t 7)]),Im 5 8,zr 9 5 0,zr 10 5 1,Io 3 (.alloc [.str [],.str [],.int .i64 0,.int .i64 0,.bool false,.int .i64 0,.int .i64 0,.str [],.sl .nil 5 [],.sl .nil 6 []]),⟨none,none,.st 10 (.t 3) (.t 9),[]⟩,Im 4 10])
 (.seq (.seq (.rg [Im 11 4,zW 12 11])
 (.cond (.t 12) (.seq (.rg [Io 2 (.mv (.k (.sl .nil 10 [])))])
 .ret) .skip))
 (.seq (.rg [zc 13 10 3,Io 14 (.bls 10 1 [.str [],.str [],.int .i64 0,.int .i64 0,.bool false,.int .i64 0,.int .i64 0,.str [],.sl .nil 5 [],.sl .nil 6 []] [(0,(.t 13))]),Im 2 14])
 .ret)))⟩
theorem ck347:za Tryz.prog 347 ir347=true:=by kernel_rfl
def ir348:zf:=⟨25,1,[.t 2],.seq (.rg [zh 2 false])
 (.seq (.seq (.rg [Im 7 0,zD 8 7,zj 9 0])
 (.block 0 (.loop [0,7,8,9] (.seq (.rg [zK 10 9 8])
 (.seq (.cond (.t 10) .skip (.exit 0))
 (.seq (.block 1 (.seq (.rg [Im 11 9,zF 12 6 7 9,zc 13 6 12,Io 4 (.alloc [.str [],.int .i64 0,.int .i64 0,.str [],.sl .nil 5 [],.sl .nil 6 []]),Im 3 11,⟨none,none,.st 6 (.t 4) (.t 13),[]⟩])
 (.seq (.reg [0,1,2,3,4,5,6,7,8,9,10,11] [If 15 0 4,Il 16 1 15,Im 17 0,Im 18 3,Io 19 (.sll 6 (.t 17) none (some (.t 18)) none),Io 20 (.call 59 [(.t 16),(.t 19)]),Im 14 20,zr 21 14 0,zr 22 14 1,Io 5 (.alloc [.int .i64 0,.int .i64 0,.str [],.sl .nil 5 [],.sl .nil 6 []]),⟨none,none,.st 5 (.t 5) (.t 21),[]⟩,Im 6 22])
 (.seq (.rg [Im 23 6])
 (.cond (.t 23) (.seq (.rg [zh 2 false])
 .ret) .skip)))))
 (.rg [zC 24 9 1,Im 9 24])))))))
 (.seq (.rg [zh 2 true])
 .ret))⟩
theorem ck348:za Tryz.prog 348 ir348=true:=by kernel_rfl
def ir349:zf:=⟨11,1,[.t 2],.seq (.rg [zp 1 0,zh 2 false])
 (.seq (.rg [If 3 1 1,zc 4 3 3,Io 5 (.call 236 [(.t 4)]),Im 6 5,Ja 7 6 4 1,Jl 8 6 1 7,Jt 9 6 (.not (.t 8)),zI 10 6 9,Im 2 10])
 .ret)⟩
theorem ck349:za Tryz.prog 349 ir349=true:=by kernel_rfl
def ir350:zf:=⟨20,1,[.t 2],.seq (.rg [zp 1 0,zh 2 false])
 (.seq (.seq (.rg [If 5 2 1,Il 6 1 5,zD 7 6,zj 8 0])
 (.block 0 (.loop [1,6,7,8] (.seq (.rg [zK 9 8 7])
 (.seq (.cond (.t 9) .skip (.exit 0))
 (.seq (.block 1 (.seq (.rg [Im 10 8,zF 11 10 6 8,zc 12 10 11,Io 4 (.alloc [.str [],.str [],.int .i64 0,.int .i64 0,.bool false,.int .i64 0,.int .i64 0,.str [],.sl .nil 5 [],.sl .nil 6 []]),Im 3 10,⟨none,none,.st 10 (.t 4) (.t 12),[]⟩])
 (.seq (.rg [If 13 2 1,Il 14 1 13,Im 15 3,Io 16 (.sll 10 (.t 14) none (some (.t 15)) none),Io 17 (.mkfn 433 [] [(.t 4)]),Io 18 (.call 351 [(.t 16),(.t 17)])])
 (.cond (.t 18) (.seq (.rg [zh 2 false])
 .ret) .skip))))
 (.rg [zC 19 8 1,Im 8 19])))))))
 (.seq (.rg [zh 2 true])
 .ret))⟩
theorem ck350:za Tryz.prog 350 ir350=true:=by kernel_rfl
def ir352:zf:=⟨10,2,[.t 3],.seq (.rg [zp 2 0,zh 3 false])
 (.seq (.rg [zc 4 3 1,If 5 1 2,If 6 0 5,Il 7 1 6,Io 8 (.call 353 [(.t 4),(.t 7)]),zW 9 8,Im 3 9])
 .ret)⟩
theorem ck352:za Tryz.prog 352 ir352=true:=by kernel_rfl
def ir354:zf:=⟨32,2,[.t 4],.seq (.rg [zp 2 0,Io 4 (.mv (.k (.sl .nil 1 [])))])
 (.seq (.rg [Im 10 1,Io 11 (.call 435 [(.k (.sl .nil 1 [])),(.t 10)]),Im 5 11])
 (.seq (.seq (.rg [zc 12 2 2,Im 13 1,Io 14 (.call 436 [(.t 12),(.t 13)]),zD 15 14,zj 16 0])
 (.block 0 (.loop [2,5,14,15,16] (.seq (.rg [zK 17 16 15])
 (.seq (.cond (.t 17) .skip (.exit 0))
 (.seq (.block 1 (.seq (.rg [zF 18 1 14 16,Il 19 1 18,Im 7 19])
 (.seq (.rg [zc 21 2 2,Im 22 7,Io 23 (.call 263 [(.t 21),(.t 22)]),Im 20 23,zr 24 20 0,zr 25 20 1,Io 8 (.alloc [.str [],.str [],.sl .nil 2 [],.sl .nil 7 []]),⟨none,none,.st 4 (.t 8) (.t 24),[]⟩,Im 9 25])
 (.rg [Im 26 5,If 27 3 8,Il 28 1 27,Io 29 (.call 435 [(.t 26),(.t 28)]),Im 5 29]))))
 (.rg [zC 30 16 1,Im 16 30])))))))
 (.seq (.rg [Im 31 5,Im 4 31])
 .ret)))⟩
theorem ck354:za Tryz.prog 354 ir354=true:=by kernel_rfl
def ir355:zf:=⟨14,2,[.t 3],.seq (.rg [zh 3 false])
 (.seq (.rg [zc 7 5 1,Im 8 0,Io 9 (.call 356 [(.t 7),(.t 8)]),Im 6 9,zr 10 6 0,zr 11 6 1,Io 4 (.alloc [.str [],.str [],.int .i64 0,.int .i64 0,.bool false,.int .i64 0,.int .i64 0,.str [],.sl .nil 5 [],.sl .nil 6 []]),⟨none,none,.st 10 (.t 4) (.t 10),[]⟩,Im 5 11])
 (.seq (.rg [Im 12 5,zW 13 12,Im 3 13])
 .ret))⟩
theorem ck355:za Tryz.prog 355 ir355=true:=by kernel_rfl
def ir356:zf:=⟨19,2,[.c 4 10 true,.t 5],.seq (.rg [zp 2 0,zp 3 1,Io 4 (.alloc [.str [],.str [],.int .i64 0,.int .i64 0,.bool false,.int .i64 0,.int .i64 0,.str [],.sl .nil 5 [],.sl .nil 6 []]),zh 5 false])
 (.seq (.rg [If 7 2 2,Il 8 1 7,Io 9 (.mkfn 437 [] [(.t 3)]),Io 10 (.call 434 [(.t 8),(.t 9)]),Im 6 10])
 (.seq (.seq (.rg [Im 11 6,Io 12 (.bi .lss .i64 (.t 11) (.k (.int .i64 0)))])
 (.cond (.t 12) (.seq (.rg [Io 13 (.bld [.str [],.str [],.int .i64 0,.int .i64 0,.bool false,.int .i64 0,.int .i64 0,.str [],.sl .nil 5 [],.sl .nil 6 []] []),⟨none,none,.st 10 (.t 4) (.t 13),[]⟩,zh 5 false])
 .ret) .skip))
 (.seq (.rg [If 14 2 2,Il 15 1 14,Im 16 6,zF 17 10 15 16,zc 18 10 17,⟨none,none,.st 10 (.t 4) (.t 18),[]⟩,zh 5 true])
 .ret)))⟩
theorem ck356:za Tryz.prog 356 ir356=true:=by kernel_rfl
def ir357:zf:=⟨9,2,[.t 3],.seq (.rg [zp 2 0,zh 3 false])
 (.seq (.rg [Il 4 1 1,If 5 0 2,Il 6 1 5,Io 7 (.call 148 [(.t 4),(.t 6)]),zW 8 7,Im 3 8])
 .ret)⟩
theorem ck357:za Tryz.prog 357 ir357=true:=by kernel_rfl
def ir358:zf:=⟨15,3,[.t 6],.seq (.rg [zp 3 0,zp 4 1,zp 5 2,zh 6 false])
 (.seq (.rg [zc 7 5 5,Io 8 (.call 68 [(.t 7)]),Im 9 8,Jt 10 9 (.ld 3 true (.t 3)),Jt 11 9 (.ld 3 true (.t 4)),Jt 12 9 (.ld 5 true (.t 5)),Jt 13 9 (.call 438 [(.t 10),(.t 11),(.t 12),(.k (.bool false))]),zI 14 9 13,Im 6 14])
 .ret)⟩
theorem ck358:za Tryz.prog 358 ir358=true:=by kernel_rfl
def ir359:zf:=⟨34,3,[.t 5],.seq (.rg [zh 5 false])
 (.seq (.seq (.rg [Im 10 1,zD 11 10,zj 12 0])
 (.block 0 (.loop [0,2,10,11,12] (.seq (.rg [zK 13 12 11])
 (.seq (.cond (.t 13) .skip (.exit 0))
 (.seq (.block 1 (.seq (.rg [zF 14 6 10 12,zc 15 6 14,Io 7 (.alloc [.str [],.int .i64 0,.int .i64 0,.str [],.sl .nil 5 [],.sl .nil 6 []]),⟨none,none,.st 6 (.t 7) (.t 15),[]⟩])
 (.seq (.rg [Im 17 0,If 18 0 7,Il 19 1 18,Io 20 (.call 313 [(.t 17),(.t 19)]),Im 16 20,zr 21 16 0,zr 22 16 1,Io 8 (.alloc [.str [],.str [],.int .i64 0,.int .i64 0,.bool false,.int .i64 0,.int .i64 0,.str [],.sl .nil 5 [],.sl .nil 6 []]),⟨none,none,.st 10 (.t 8) (.t 21),[]⟩,Im 9 22])
 (.seq (.rg [Im 23 9,Im 24 23,Jt 25 24 (.ld 3 true (.t 2)),Ja 26 24 1 8,Jt 27 24 (.ld 3 true (.t 26)),Ja 28 24 1 7,Jt 29 24 (.ld 5 true (.t 28)),Jt 30 24 (.call 358 [(.t 25),(.t 27),(.t 29)]),Jt 31 24 (.not (.t 30)),zI 32 24 31])
 (.cond (.t 32) (.seq (.rg [zh 5 false])
 .ret) .skip)))))
 (.rg [zC 33 12 1,Im 12 33])))))))
 (.seq (.rg [zh 5 true])
 .ret))⟩
theorem ck359:za Tryz.prog 359 ir359=true:=by kernel_rfl
def ir360:zf:=⟨44,3,[.t 6],.seq (.rg [zp 3 0,zp 4 1,zp 5 2,Io 6 (.mv (.k (.sl .nil 5 [])))])
 (.seq (.reg [0,1,2,4,5,3,6,7] [zc 12 3 3,zc 13 3 3,zc 14 5 5,If 16 4 5,Il 17 1 16,⟨some 15,none,.call 89 [(.t 13),(.t 14)],[0,4]⟩,Io 18 (.call 439 [(.t 12),(.t 15),(.t 17)]),Im 7 18])
 (.seq (.seq (.rg [zc 19 2 4,If 20 4 5,Il 21 1 20,Io 22 (.call 436 [(.t 19),(.t 21)]),zD 23 22,zj 24 0])
 (.block 0 (.loop [3,4,7,22,23,24] (.seq (.rg [zK 25 24 23])
 (.seq (.cond (.t 25) .skip (.exit 0))
 (.seq (.block 1 (.seq (.rg [zF 26 1 22 24,Il 27 1 26,Im 9 27])
 (.seq (.rg [zc 29 2 4,Im 30 9,Io 31 (.call 263 [(.t 29),(.t 30)]),Im 28 31,zr 32 28 0,zr 33 28 1,Io 10 (.alloc [.str [],.str [],.sl .nil 2 [],.sl .nil 7 []]),⟨none,none,.st 4 (.t 10) (.t 32),[]⟩,Im 11 33])
 (.rg [Im 34 7,zc 35 3 3,If 36 1 10,Il 37 1 36,If 38 3 10,Il 39 1 38,Io 40 (.call 439 [(.t 35),(.t 37),(.t 39)]),z1 41 5 56 34 40,Im 7 41]))))
 (.rg [zC 42 24 1,Im 24 42])))))))
 (.seq (.rg [Im 43 7,Im 6 43])
 .ret)))⟩
theorem ck360:za Tryz.prog 360 ir360=true:=by kernel_rfl
def ir361:zf:=⟨37,3,[.t 6],.seq (.rg [zp 3 0,zp 4 1,zh 6 false])
 (.seq (.seq (.rg [zc 7 3 4,Io 8 (.call 236 [(.t 7)]),zW 9 8,Im 10 9,Fa 11 10 1 3,Jf 12 10 (.ld 3 true (.t 11)),Jf 13 10 (.call 236 [(.t 12)]),ye 14 10 13])
 (.cond (.t 14) (.seq (.rg [If 15 1 3,zc 16 3 15,zc 17 3 4,Io 18 (.call 440 [(.t 16),(.t 17)]),Im 6 18])
 .ret) .skip))
 (.seq (.reg [0,1,2,3,4,5,6,7,8,9,10,11,12,13,14,15,16,17,18] [Im 19 2,Im 20 19,Fa 21 20 4 3,Fl 22 20 1 21,Fm 23 20 22,Ja 24 23 5 3,Ja 25 23 0 24,Jl 26 23 1 25,Jt 27 23 (.bi .neq .i64 (.t 26) (.k (.int .i64 0))),Jf 28 20 (.pick (.t 23) (.t 27) (.k (.bool false))),ye 29 20 28,Im 30 29,Ja 31 30 1 3,Jt 32 30 (.ld 3 true (.t 31)),Jt 33 30 (.ld 3 true (.t 4)),⟨some 34,(some (30,true)),.call 441 [(.t 33)],[13]⟩,Jt 35 30 (.call 440 [(.t 32),(.t 34)]),zI 36 30 35,Im 6 36])
 .ret))⟩
theorem ck361:za Tryz.prog 361 ir361=true:=by kernel_rfl
def ir362:zf:=⟨64,3,[.t 6],.seq (.rg [Io 6 (.mv (.k (.sl .nil 10 [])))])
 (.scope (.seq (.rg [Io 7 (.mv (.k (.sl .nil 10 [])))])
 (.seq .skip
 (.seq (.seq (.rg [Im 10 1,zD 11 10,zj 12 0])
 (.block 0 (.loop [0,2,7,10,11,12] (.seq (.rg [zK 13 12 11])
 (.seq (.cond (.t 13) .skip (.exit 0))
 (.seq (.block 1 (.seq (.rg [zF 14 10 10 12,zc 15 10 14,Io 9 (.alloc [.int .i64 0,.int .i64 0,.str [],.str [],.sl .nil 6 [],.sl .nil 2 [],.str [],.sl .nil 7 [],.str [],.sl .nil 10 []]),⟨none,none,.st 10 (.t 9) (.t 15),[]⟩])
 (.seq (.seq (.rg [If 16 1 9,If 17 0 16,Il 18 1 17])
 (.block 2 (.seq (.rg [zN 20 18 0,Im 19 20])
 (.cond (.t 19) (.seq (.rg [Im 21 7,zc 22 10 9,Io 23 (.bls 10 1 [.int .i64 0,.int .i64 0,.str [],.str [],.sl .nil 6 [],.sl .nil 2 [],.str [],.sl .nil 7 [],.str [],.sl .nil 10 []] [(0,(.t 22))]),z1 24 10 176 21 23,Im 7 24])
 (.exit 1)) (.seq (.rg [zN 26 18 2,Im 25 26])
 (.cond (.t 25) (.seq (.rg [Im 27 7,Im 28 0,If 29 9 9,Il 30 1 29,Im 31 2,Io 32 (.call 362 [(.t 28),(.t 30),(.t 31)]),z1 33 10 176 27 32,Im 7 33])
 (.exit 1)) .skip))))))
 (.seq (.seq (.rg [If 34 1 9,If 35 0 34,Il 36 1 35,Io 37 (.bi .neq .i64 (.t 36) (.k (.int .i64 1))),Im 38 37,Fm 39 38 2,Fa 40 38 1 9,Fa 41 38 2 40,Fl 42 38 1 41,Jf 43 38 (.lkp (.one .s) (.bool false) false (.t 39) (.t 42)),ye 44 38 43])
 (.cond (.t 44) (.exit 1) .skip))
 (.seq (.rg [Im 45 2,If 46 1 9,If 47 2 46,Il 48 1 47,⟨none,none,.mup (.one .s) (.t 45) (.t 48) (.k (.bool true)),[]⟩])
 (.reg [0,1,2,3,4,5,6,7,8,9,10,11,12,13] [Im 49 7,Im 50 0,Im 51 0,zk 52 51,If 53 4 52,Il 54 1 53,If 55 1 9,If 56 2 55,Il 57 1 56,Io 58 (.lkp (.one .s) (.sl .nil 10 []) false (.t 54) (.t 57)),Im 59 2,Io 60 (.call 362 [(.t 50),(.t 58),(.t 59)]),z1 61 10 176 49 60,Im 7 61]))))))
 (.rg [zC 62 12 1,Im 12 62])))))))
 (.seq (.rg [Im 63 7,Im 6 63])
 .ret)))))⟩
theorem ck362:za Tryz.prog 362 ir362=true:=by kernel_rfl
def ir363:zf:=⟨15,1,[.t 2],.seq (.rg [zp 1 0,Io 2 (.mv (.k (.str [])))])
 (.seq (.block 0 (.seq (.rg [If 4 0 1,Il 5 1 4,Io 6 (.bi .neq .i64 (.t 5) (.k (.int .i64 0))),Im 3 6])
 (.cond (.t 3) (.seq (.rg [Io 2 (.mv (.k (.str [])))])
 .ret) (.seq (.rg [If 8 1 1,Il 9 1 8,Io 10 (.bs .neq (.t 9) (.k (.str []))),Im 7 10])
 (.cond (.t 7) (.seq (.rg [If 11 1 1,Il 12 1 11,Im 2 12])
 .ret) .skip)))))
 (.seq (.rg [If 13 2 1,Il 14 1 13,Im 2 14])
 .ret))⟩
theorem ck363:za Tryz.prog 363 ir363=true:=by kernel_rfl
def ir364:zf:=⟨93,3,[.t 6],.seq (.rg [zp 4 1,zp 5 2,zh 6 false])
 (.seq (.rg [If 12 0 4,Il 13 1 12,If 14 0 5,Il 15 1 14,Io 16 (.bld [.int .i64 0,.int .i64 0] [(0,1,(.t 13)),(1,1,(.t 15))]),Io 7 (.alloc [.int .i64 0,.int .i64 0]),⟨none,none,.st 2 (.t 7) (.t 16),[]⟩])
 (.seq (.seq (.reg [0,1,2,3,4,5,6,7,8,9,10] [Im 18 0,zk 19 18,If 20 6 19,Il 21 1 20,zc 22 2 7,Io 23 (.lkp (.agg [(.i .i64),(.i .i64)]) (.bool false) true (.t 21) (.t 22)),Im 17 23,zr 24 17 0,zr 25 17 1,Im 8 24,Im 9 25])
 (.seq (.rg [Im 26 9])
 (.cond (.t 26) (.seq (.rg [Im 27 8,Im 6 27])
 .ret) .skip)))
 (.seq (.reg [0,1,2,3,4,5,6,7,8,9,10,11,12,13,14,15,16,17,18,19,20,21,22,23,24,25] [If 28 8 4,Il 29 1 28,If 30 8 5,Il 31 1 30,Io 32 (.bs .neq (.t 29) (.t 31)),Im 33 32,Jm 34 33 0,Jt 35 33 (.nilchk (.t 34)),Ja 36 33 0 35,Jt 37 33 (.ld 3 true (.t 36)),Ja 38 33 8 4,Jl 39 33 1 38,Jt 40 33 (.bls 1 1 [.int .i64 0] [(0,(.k (.int .i64 1)))]),Jt 41 33 (.call 285 [(.t 37),(.t 39),(.t 40)]),zI 42 33 41,Im 43 42,Jm 44 43 0,Jt 45 43 (.nilchk (.t 44)),Ja 46 43 0 45,Jt 47 43 (.ld 3 true (.t 46)),Ja 48 43 8 5,Jl 49 43 1 48,Jt 50 43 (.bls 1 1 [.int .i64 0] [(0,(.k (.int .i64 1)))]),Jt 51 43 (.call 285 [(.t 47),(.t 49),(.t 50)]),zI 52 43 51,Im 10 52])
 (.seq (.rg [Im 53 0,zc 54 10 4,zc 55 10 5,Io 56 (.call 442 [(.t 53),(.t 54),(.t 55)]),Im 57 56,Jm 58 57 10,Jm 59 57 58,Fa 60 59 1 4,Fa 61 59 2 60,Fl 62 59 1 61,Fa 63 59 1 5,Fa 64 59 2 63,Fl 65 59 1 64,Jf 66 59 (.bs .eql (.t 62) (.t 65)),Fm 67 59 66,Ja 68 67 1 4,Ja 69 67 3 68,Jl 70 67 1 69,Ja 71 67 1 5,Ja 72 67 3 71,Jl 73 67 1 72,Jt 74 67 (.call 443 [(.t 70),(.t 73)]),Jf 75 59 (.pick (.t 67) (.t 74) (.k (.bool false))),Fm 76 59 75,Jm 77 76 0,Jt 78 76 (.ld 10 true (.t 4)),Jt 79 76 (.ld 10 true (.t 5)),Jm 80 76 0,Jt 81 76 (.mkfn 364 [(.t 80)] []),Jt 82 76 (.call 444 [(.t 77),(.t 78),(.t 79),(.t 81)]),Jf 83 59 (.pick (.t 76) (.t 82) (.k (.bool false))),Jt 84 57 (.pick (.t 59) (.k (.bool true)) (.t 83)),zI 85 57 84,Im 11 85])
 (.seq (.reg [0,1,2,3,4,5,6] [Im 86 0,zk 87 86,If 88 6 87,Il 89 1 88,zc 90 2 7,Im 91 11,⟨none,none,.mup (.agg [(.i .i64),(.i .i64)]) (.t 89) (.t 90) (.t 91),[]⟩])
 (.seq (.rg [Im 92 11,Im 6 92])
 .ret))))))⟩
theorem ck364:za Tryz.prog 364 ir364=true:=by kernel_rfl
def ir371:zf:=⟨103,3,[.c 6 5 true,.t 7],.seq (.rg [zp 3 0,zp 4 1,Io 5 (.box (.t 2)),Io 6 (.alloc [.int .i64 0,.int .i64 0,.str [],.sl .nil 5 [],.sl .nil 6 []]),zj 7 0])
 (.seq (.rg [zh 8 false])
 (.seq (.seq (.rg [If 13 3 3,Il 14 1 13,Im 15 14,Ja 16 15 0 5,Jl 17 15 1 16,Jt 18 15 (.bi .eql .i64 (.t 17) (.k (.int .i64 8))),zI 19 15 18])
 (.cond (.t 19) (.rg [If 21 2 5,Il 22 1 21,If 23 5 3,Il 24 1 23,Io 25 (.call 59 [(.t 22),(.t 24)]),Im 20 25,zr 26 20 0,zr 27 20 1,⟨none,none,.st 5 (.t 5) (.t 26),[]⟩,Im 8 27]) .skip))
 (.seq (.block 0 (.seq (.rg [If 29 0 5,Il 30 1 29,zN 31 30 0,Im 32 31,Jt 33 32 (.ld 3 true (.t 4)),Jt 34 32 (.call 236 [(.t 33)]),zI 35 32 34,Im 28 35])
 (.cond (.t 28) (.seq (.rg [Io 36 (.bld [.int .i64 0,.int .i64 0,.str [],.sl .nil 5 [],.sl .nil 6 []] []),⟨none,none,.st 5 (.t 6) (.t 36),[]⟩,zj 7 9])
 .ret) (.seq (.seq (.rg [If 38 0 5,Il 39 1 38,zN 40 39 0,Im 37 40])
 (.cond (.t 37) .skip (.rg [Im 41 8,Im 37 41])))
 (.cond (.t 37) (.seq (.rg [zc 42 5 5,⟨none,none,.st 5 (.t 6) (.t 42),[]⟩,zj 7 0])
 .ret) .skip)))))
 (.seq (.seq (.rg [zc 44 3 4,Io 45 (.call 447 [(.t 44)]),Im 43 45,zr 46 43 0,zr 47 43 1,Io 9 (.alloc [.str [],.int .i64 0,.int .i64 0]),⟨none,none,.st 3 (.t 9) (.t 46),[]⟩,Im 10 47])
 (.seq (.rg [Im 48 10])
 (.cond (.t 48) (.seq (.rg [zc 49 6 3,zc 50 3 9,zc 51 5 5,Io 52 (.call 448 [(.t 49),(.t 50),(.t 51)]),zr 53 52 0,zr 54 52 1,⟨none,none,.st 5 (.t 6) (.t 53),[]⟩,Im 7 54])
 .ret) .skip)))
 (.seq (.rg [If 56 0 3,zc 57 3 56,If 58 0 4,Il 59 1 58,Io 60 (.call 299 [(.t 57),(.t 59)]),Im 55 60,zr 61 55 0,zr 62 55 1,Io 11 (.alloc [.int .i64 0,.str [],.sl .nil 1 [],.sl .nil 6 [],.sl .nil 1 [],.sl .nil 10 []]),⟨none,none,.st 6 (.t 11) (.t 61),[]⟩,Im 12 62])
 (.seq (.block 1 (.seq (.rg [Im 64 12,Im 65 64,Ja 66 65 0 11,Jl 67 65 1 66,Jt 68 65 (.bi .eql .i64 (.t 67) (.k (.int .i64 0))),zI 69 65 68,Im 63 69])
 (.cond (.t 63) (.seq (.rg [If 70 0 4,Il 71 1 70,zc 72 5 5,Io 73 (.call 449 [(.t 71),(.t 72)]),zr 74 73 0,zr 75 73 1,⟨none,none,.st 5 (.t 6) (.t 74),[]⟩,Im 7 75])
 .ret) (.seq (.rg [Im 77 12,Im 78 77,Ja 79 78 0 11,Jl 80 78 1 79,Jt 81 78 (.bi .eql .i64 (.t 80) (.k (.int .i64 4))),zI 82 78 81,Im 76 82])
 (.cond (.t 76) (.seq (.rg [zc 83 6 3,zc 84 6 11,zc 85 5 5,Io 86 (.call 450 [(.t 83),(.t 84),(.t 85)]),zr 87 86 0,zr 88 86 1,⟨none,none,.st 5 (.t 6) (.t 87),[]⟩,Im 7 88])
 .ret) (.seq (.rg [Im 90 12,Im 91 90,Ja 92 91 0 11,Jl 93 91 1 92,Jt 94 91 (.bi .eql .i64 (.t 93) (.k (.int .i64 5))),zI 95 91 94,Im 89 95])
 (.cond (.t 89) (.seq (.rg [zc 96 6 3,zc 97 6 11,zc 98 5 5,Io 99 (.call 451 [(.t 96),(.t 97),(.t 98)]),zr 100 99 0,zr 101 99 1,⟨none,none,.st 5 (.t 6) (.t 100),[]⟩,Im 7 101])
 .ret) .skip)))))))
 (.seq (.rg [Io 102 (.bld [.int .i64 0,.int .i64 0,.str [],.sl .nil 5 [],.sl .nil 6 []] []),⟨none,none,.st 5 (.t 6) (.t 102),[]⟩,zj 7 7])
 .ret)))))))⟩
theorem ck371:za Tryz.prog 371 ir371=true:=by kernel_rfl
def ir376:zf:=⟨51,3,[.c 6 5 true,.t 7],.seq (.rg [zp 5 2,Io 6 (.alloc [.str [],.str [],.str [],.str [],.sl .nil 6 []]),zh 7 false])
 (.seq (.rg [Im 14 0,Im 15 1,zc 16 2 5,Io 17 (.call 452 [(.t 14),(.t 15),(.t 16)]),Im 13 17,zr 18 13 0,zr 19 13 1,zr 20 13 2,Io 8 (.alloc [.str [],.sl .nil 10 [],.str [],.int .i64 0,.int .i64 0,.sl .nil 2 []]),⟨none,none,.st 6 (.t 8) (.t 18),[]⟩,Im 9 19,Im 10 20])
 (.seq (.reg [0,1,2,3,4,5,6,7,8,9,10,11,12] [Im 22 0,zk 23 22,If 24 0 23,zc 25 3 24,Im 26 1,zc 27 6 8,Io 28 (.call 55 [(.t 25),(.t 26),(.t 27)]),Im 21 28,zr 29 21 0,zr 30 21 1,Io 11 (.alloc [.int .i64 0,.str [],.str [],.str [],.str []]),⟨none,none,.st 5 (.t 11) (.t 29),[]⟩,Im 12 30])
 (.seq (.seq (.rg [Im 31 10,Io 32 (.bi .neq .i64 (.t 31) (.k (.int .i64 0))),Im 33 32,Fm 34 33 12,Jf 35 33 (.not (.t 34)),ye 36 33 35,Im 37 36,Fa 38 37 0 11,Fl 39 37 1 38,Jf 40 37 (.bi .neq .i64 (.t 39) (.k (.int .i64 3))),ye 41 37 40])
 (.cond (.t 41) (.seq (.rg [Io 42 (.bld [.str [],.str [],.str [],.str [],.sl .nil 6 []] []),⟨none,none,.st 5 (.t 6) (.t 42),[]⟩,zh 7 false])
 .ret) .skip))
 (.seq (.reg [0,1,2,3,4,5,6,7,8,9] [Im 43 0,zk 44 43,If 45 0 44,zc 46 3 45,zc 47 6 8,zc 48 5 11,Im 49 9,Io 50 (.call 453 [(.t 46),(.t 47),(.t 48),(.t 49)]),⟨none,none,.st 5 (.t 6) (.t 50),[]⟩,zh 7 true])
 .ret))))⟩
theorem ck376:za Tryz.prog 376 ir376=true:=by kernel_rfl
def ir377:zf:=⟨127,4,[],.seq (.rg [zp 5 1,zp 6 2])
 (.seq (.rg [If 16 0 5,Il 17 1 16,If 18 0 6,Il 19 1 18,Io 20 (.call 454 [(.t 17),(.t 19)]),Im 8 20])
 (.seq (.rg [If 21 7 5,Il 22 1 21,If 23 0 6,Il 24 1 23,Io 25 (.bld [.str [],.int .i64 0] [(0,1,(.t 24))]),Io 26 (.call 455 [(.t 22),(.t 25)]),Im 9 26])
 (.seq (.rg [Im 28 0,If 29 1 5,Il 30 1 29,zc 31 2 6,Io 32 (.call 452 [(.t 28),(.t 30),(.t 31)]),Im 27 32,zr 33 27 0,zr 34 27 1,zr 35 27 2,Io 10 (.alloc [.str [],.sl .nil 10 [],.str [],.int .i64 0,.int .i64 0,.sl .nil 2 []]),⟨none,none,.st 6 (.t 10) (.t 33),[]⟩,Im 11 34,Im 12 35])
 (.seq (.rg [Im 36 8,If 37 2 10,zc 38 3 37,Io 39 (.call 236 [(.t 38)]),zk 40 36,If 41 0 40,If 42 1 41,⟨none,none,.st 1 (.t 42) (.t 39),[]⟩])
 (.seq (.seq (.rg [If 43 1 6,Il 44 1 43,Io 45 (.ia 7 (.t 44) (.k (.int .i64 0))),If 46 2 45,Il 47 1 46,Io 48 (.bs .eql (.t 47) (.k (.str [95,95,116,121,112,101,110,97,109,101])))])
 (.cond (.t 48) (.seq (.rg [Im 49 8,If 50 1 5,Il 51 1 50,Io 52 (.call 15 [(.t 51)]),zk 53 49,If 54 0 53,If 55 2 54,⟨none,none,.st 5 (.t 55) (.t 52),[]⟩])
 .ret) .skip))
 (.seq (.reg [0,1,2,3,4,5,6,7,8,9,10,11,12,13] [Im 57 0,zk 58 57,If 59 0 58,zc 60 3 59,If 61 1 5,Il 62 1 61,zc 63 6 10,Io 64 (.call 55 [(.t 60),(.t 62),(.t 63)]),Im 56 64,zr 65 56 0,zr 66 56 1,Io 13 (.alloc [.int .i64 0,.str [],.str [],.str [],.str []]),⟨none,none,.st 5 (.t 13) (.t 65),[]⟩,Im 14 66])
 (.seq (.rg [Io 15 (.alloc [.int .i64 0,.int .i64 0,.str [],.sl .nil 5 [],.sl .nil 6 []])])
 (.seq (.block 0 (.seq (.rg [Im 81 12,Io 82 (.bi .neq .i64 (.t 81) (.k (.int .i64 0))),Im 80 82])
 (.cond (.t 80) .skip (.seq (.rg [If 84 0 13,Il 85 1 84,zN 86 85 2,Im 83 86])
 (.cond (.t 83) (.rg [If 88 3 13,Il 89 1 88,Im 90 11,Io 91 (.call 59 [(.t 89),(.t 90)]),Im 87 91,zr 92 87 0,zr 93 87 1,⟨none,none,.st 5 (.t 15) (.t 92),[]⟩]) (.seq (.rg [If 95 0 13,Il 96 1 95,Io 97 (.bi .neq .i64 (.t 96) (.k (.int .i64 3))),Im 94 97])
 (.cond (.t 94) (.rg [If 98 2 5,zc 99 4 98,If 100 2 13,Il 101 1 100,Io 102 (.call 456 [(.t 99),(.t 101)]),⟨none,none,.st 5 (.t 15) (.t 102),[]⟩]) (.seq (.rg [Im 104 3,Io 105 (.isnil .f (.t 104)),Im 103 105])
 (.cond (.t 103) (.rg [zj 12 14]) (.reg [0,1,2,3,4,5,6,7,8,9,10,11,12,13,14] [Im 68 3,Im 69 0,zk 70 69,If 71 0 70,zc 72 3 71,zc 73 6 10,zc 74 5 13,Im 75 11,Io 76 (.call 453 [(.t 72),(.t 73),(.t 74),(.t 75)]),Io 77 (.callv (.t 68) [(.t 76)]),Im 67 77,zr 78 67 0,zr 79 67 1,⟨none,none,.st 5 (.t 15) (.t 78),[]⟩,Im 12 79]))))))))))
 (.seq (.seq (.rg [Im 106 12,Io 107 (.bi .neq .i64 (.t 106) (.k (.int .i64 0)))])
 (.cond (.t 107) (.seq (.rg [Im 108 0,Im 109 8,Im 110 9,Im 111 12,Io 112 (.call 457 [(.t 108),(.t 109),(.t 110),(.t 111)])])
 .ret) .skip))
 (.reg [0,1,2,3,4,5,6,7,8,9,11,10,12,13] [Im 113 0,Im 114 8,If 115 2 10,zc 116 3 115,zc 117 5 15,If 118 1 13,Il 119 1 118,Io 120 (.bld [.str [],.str []] [(0,1,(.t 119))]),If 121 1 6,Il 122 1 121,Im 124 9,⟨some 123,none,.call 459 [(.t 122)],[3,4,6]⟩,Io 125 (.bld [.str [],.str [],.nilp,.str [],.int .i64 0,.int .i64 0,.sl .nil 7 [],.sl .nil 2 []] [(0,2,(.t 120)),(6,1,(.t 123)),(7,1,(.t 124))]),Io 126 (.call 458 [(.t 113),(.t 114),(.t 116),(.t 117),(.t 125)])]))))))))))⟩
theorem ck377:za Tryz.prog 377 ir377=true:=by kernel_rfl
def ir378:zf:=⟨8,3,[.c 4 5 true,.t 5],.seq (.rg [zp 3 0,Io 4 (.alloc [.int .i64 0,.int .i64 0,.str [],.sl .nil 5 [],.sl .nil 6 []]),zj 5 0])
 (.seq (.reg [0,1,2,3] [zc 6 5 1,Il 7 1 2,⟨none,none,.st 5 (.t 4) (.t 6),[1]⟩,Im 5 7])
 .ret)⟩
theorem ck378:za Tryz.prog 378 ir378=true:=by kernel_rfl
def ir380:zf:=⟨41,1,[.t 2,.t 3],.seq (.rg [Io 2 (.mv (.k (.sl .nil 2 []))),Io 3 (.mv (.k (.nilm)))])
 (.scope (.seq (.rg [Io 4 (.mv (.k (.sl .nil 2 [])))])
 (.seq (.rg [Io 10 (.mkm (.agg [.s,.s])),Im 5 10])
 (.seq .skip
 (.seq (.seq (.rg [Im 11 0,zk 12 11,If 13 11 12,Il 14 1 13,zD 15 14,zj 16 0])
 (.block 0 (.loop [4,5,14,15,16] (.seq (.rg [zK 17 16 15])
 (.seq (.cond (.t 17) .skip (.exit 0))
 (.seq (.block 1 (.seq (.rg [zF 18 8 14 16,zc 19 8 18,Io 7 (.alloc [.str [],.str [],.nilp,.str [],.int .i64 0,.int .i64 0,.sl .nil 7 [],.sl .nil 2 []]),⟨none,none,.st 8 (.t 7) (.t 19),[]⟩])
 (.seq (.seq (.rg [Im 21 5,If 22 0 7,zc 23 2 22,Io 24 (.lkp (.agg [.s,.s]) (.int .i64 0) true (.t 21) (.t 23)),Im 20 24,zr 25 20 0,zr 26 20 1,Im 8 25,Im 9 26])
 (.seq (.rg [Im 27 9])
 (.cond (.t 27) (.exit 1) .skip)))
 (.seq (.rg [Im 28 5,If 29 0 7,zc 30 2 29,Im 31 4,zD 32 31,⟨none,none,.mup (.agg [.s,.s]) (.t 28) (.t 30) (.t 32),[]⟩])
 (.rg [Im 33 4,If 34 0 7,zc 35 2 34,Io 36 (.bls 2 1 [.str [],.str []] [(0,(.t 35))]),z1 37 2 32 33 36,Im 4 37])))))
 (.rg [zC 38 16 1,Im 16 38])))))))
 (.seq (.rg [Im 39 4,Im 40 5,Im 2 39,Im 3 40])
 .ret))))))⟩
theorem ck380:za Tryz.prog 380 ir380=true:=by kernel_rfl
def ir381:zf:=⟨25,1,[.t 2],.seq (.rg [Io 2 (.mv (.k (.sl .nil 2 [])))])
 (.scope (.seq (.rg [Io 7 (.mkm (.agg [.s,.s])),Im 3 7])
 (.seq (.rg [Io 4 (.mv (.k (.sl .nil 2 [])))])
 (.seq .skip
 (.seq (.seq (.rg [Im 8 0,zD 9 8,zj 10 0])
 (.block 0 (.loop [3,4,8,9,10] (.seq (.rg [zK 11 10 9])
 (.seq (.cond (.t 11) .skip (.exit 0))
 (.seq (.block 1 (.seq (.rg [zF 12 2 8 10,zc 13 2 12,Io 6 (.alloc [.str [],.str []]),⟨none,none,.st 2 (.t 6) (.t 13),[]⟩])
 (.seq (.seq (.rg [Im 14 3,zc 15 2 6,Io 16 (.lkp (.agg [.s,.s]) (.bool false) false (.t 14) (.t 15))])
 (.cond (.t 16) (.exit 1) .skip))
 (.seq (.rg [Im 17 3,zc 18 2 6,⟨none,none,.mup (.agg [.s,.s]) (.t 17) (.t 18) (.k (.bool true)),[]⟩])
 (.rg [Im 19 4,zc 20 2 6,Io 21 (.bls 2 1 [.str [],.str []] [(0,(.t 20))]),z1 22 2 32 19 21,Im 4 22])))))
 (.rg [zC 23 10 1,Im 10 23])))))))
 (.seq (.rg [Im 24 4,Im 2 24])
 .ret))))))⟩
theorem ck381:za Tryz.prog 381 ir381=true:=by kernel_rfl
def ir383:zf:=⟨76,3,[],.seq (.rg [zp 4 1,Io 5 (.box (.t 2))])
 (.block 0 (.seq (.rg [If 35 5 5,Il 36 1 35,Io 37 (.bi .neq .i64 (.t 36) (.k (.int .i64 0))),Im 34 37])
 (.cond (.t 34) (.rg [Im 38 0,If 39 2 4,Il 40 1 39,If 41 7 4,Il 42 1 41,If 43 5 5,Il 44 1 43,Io 45 (.call 457 [(.t 38),(.t 40),(.t 42),(.t 44)])]) (.seq (.rg [If 47 4 5,Il 48 1 47,zW 49 48,Im 46 49])
 (.cond (.t 46) (.rg [Im 50 0,If 51 2 4,Il 52 1 51,If 53 7 4,Il 54 1 53,Io 55 (.call 463 [(.t 50),(.t 52),(.t 54)])]) (.seq (.reg [0,1,2,3,4,5,6,8,9,10,7,11,12,13] [Im 57 0,zk 58 57,If 59 0 58,zc 60 3 59,If 61 3 4,If 62 0 61,Il 63 1 62,If 65 0 5,If 66 1 65,Il 67 1 66,⟨some 64,none,.call 178 [(.t 60),(.t 63)],[9]⟩,Io 68 (.call 148 [(.t 64),(.t 67)]),zW 69 68,Im 56 69])
 (.cond (.t 56) (.rg [Im 70 0,If 71 2 4,Il 72 1 71,If 73 7 4,Il 74 1 73,Io 75 (.call 457 [(.t 70),(.t 72),(.t 74),(.k (.int .i64 7))])]) (.seq (.rg [If 6 2 4,Il 7 1 6,zk 8 7,If 9 0 8,If 10 0 9,⟨none,none,.st 1 (.t 10) (.k (.int .i64 2)),[]⟩])
 (.seq (.rg [If 11 0 5,If 12 2 11,Il 13 1 12,Io 14 (.call 85 [(.t 13)]),If 15 0 5,If 16 2 15,⟨none,none,.st 1 (.t 16) (.t 14),[]⟩])
 (.reg [0,1,2,3,4,5,6,7,8,9,10,11,12,13,14,15,16] [Im 17 0,zk 18 17,If 19 7 18,Il 20 1 19,If 21 2 4,Il 22 1 21,If 23 0 5,If 24 1 23,Il 25 1 24,If 26 0 5,zc 27 4 26,If 28 6 4,Il 29 1 28,If 30 7 4,Il 31 1 30,Io 32 (.bld [.nilp,.str [],.str [],.str [],.sl .nil 6 [],.bool false,.sl .nil 7 [],.sl .nil 2 []] [(0,1,(.t 22)),(1,1,(.t 25)),(2,4,(.t 27)),(6,1,(.t 29)),(7,1,(.t 31))]),Io 33 (.callv (.t 20) [(.t 32)])]))))))))))⟩
theorem ck383:za Tryz.prog 383 ir383=true:=by kernel_rfl
def ir384:zf:=⟨31,3,[.t 6,.t 7],.seq (.rg [zp 5 2,zj 6 0,zj 7 0])
 (.scope (.seq (.rg [Io 8 (.mv (.k (.int .i64 (-1)))),Io 9 (.mv (.k (.int .i64 (-1))))])
 (.seq .skip
 (.seq (.seq (.rg [Im 12 0,zD 13 12,zj 14 0])
 (.block 0 (.loop [1,5,8,9,12,13,14] (.seq (.rg [zK 15 14 13])
 (.seq (.cond (.t 15) .skip (.exit 0))
 (.seq (.block 1 (.seq (.rg [Im 16 14,zF 17 2 12 14,zc 18 2 17,Io 11 (.alloc [.str [],.sl .nil 4 []]),Im 10 16,⟨none,none,.st 2 (.t 11) (.t 18),[]⟩])
 (.seq (.seq (.rg [If 19 0 11,Il 20 1 19,Im 21 1,Io 22 (.bs .neq (.t 20) (.t 21))])
 (.cond (.t 22) (.exit 1) .skip))
 (.seq (.rg [Im 23 10,Im 8 23])
 (.seq (.rg [If 24 1 11,Il 25 1 24,Io 26 (.mkfn 465 [] [(.t 5)]),Io 27 (.call 464 [(.t 25),(.t 26)]),Im 9 27])
 (.exit 0))))))
 (.rg [zC 28 14 1,Im 14 28])))))))
 (.seq (.rg [Im 29 8,Im 30 9,Im 6 29,Im 7 30])
 .ret)))))⟩
theorem ck384:za Tryz.prog 384 ir384=true:=by kernel_rfl
def ir385:zf:=⟨15,2,[.t 4],.seq (.rg [zp 2 0,Io 4 (.mv (.k (.str [])))])
 (.seq (.seq (.rg [Im 5 1,If 6 7 2,Il 7 1 6,zD 8 7,zK 9 5 8])
 (.cond (.t 9) (.seq (.rg [If 10 7 2,Il 11 1 10,Im 12 1,zF 13 1 11 12,Il 14 1 13,Im 4 14])
 .ret) .skip))
 (.seq (.rg [Io 4 (.mv (.k (.str [])))])
 .ret))⟩
theorem ck385:za Tryz.prog 385 ir385=true:=by kernel_rfl
def ir389:zf:=⟨8,2,[.t 3],.seq (.rg [zp 2 0,zh 3 false])
 (.seq (.rg [If 4 0 2,Il 5 1 4,Il 6 1 1,Io 7 (.bs .eql (.t 5) (.t 6)),Im 3 7])
 .ret)⟩
theorem ck389:za Tryz.prog 389 ir389=true:=by kernel_rfl
def ir390:zf:=⟨30,2,[.t 4],.seq (.rg [zh 4 false])
 (.seq (.rg [Im 10 0,Im 11 1,Io 12 (.call 470 [(.t 10),(.k (.str [115,107,105,112])),(.t 11)]),Im 9 12,zr 13 9 0,zr 14 9 1,Im 5 13,Im 6 14])
 (.seq (.rg [Im 16 0,Im 17 1,Io 18 (.call 470 [(.t 16),(.k (.str [105,110,99,108,117,100,101])),(.t 17)]),Im 15 18,zr 19 15 0,zr 20 15 1,Im 7 19,Im 8 20])
 (.seq (.rg [Im 21 6,zW 22 21,Im 23 22,Jm 24 23 7,Jt 25 23 (.not (.t 24)),Jm 26 23 25,Fm 27 26 8,Jt 28 23 (.pick (.t 26) (.k (.bool true)) (.t 27)),zI 29 23 28,Im 4 29])
 .ret)))⟩
theorem ck390:za Tryz.prog 390 ir390=true:=by kernel_rfl
def ir391:zf:=⟨67,2,[],.seq (.rg [zp 3 1])
 (.seq (.rg [zc 6 7 3,Io 7 (.call 363 [(.t 6)]),Io 4 (.alloc [.str []]),⟨none,none,.st 1 (.t 4) (.t 7),[]⟩])
 (.seq (.rg [Im 8 0,zk 9 8,If 10 7 9,Il 11 1 10,Io 12 (.mkfn 472 [] [(.t 4)]),Io 13 (.call 471 [(.t 11),(.t 12)]),Im 5 13])
 (.seq (.seq (.rg [Im 14 5,Io 15 (.bi .lss .i64 (.t 14) (.k (.int .i64 0)))])
 (.cond (.t 15) (.seq (.rg [Im 16 0,zk 17 16,If 18 7 17,Il 19 1 18,zD 20 19,Im 5 20])
 (.reg [0,1,2,3,4,5,6,7,8,9,10,11] [Im 21 0,Im 22 0,zk 23 22,If 24 7 23,Il 25 1 24,Il 26 1 4,Io 27 (.bld [.str [],.sl .nil 7 []] [(0,1,(.t 26))]),Io 28 (.bls2 2 1 [.str [],.sl .nil 7 []] [(0,(.t 27))]),Io 29 (.appm2 2 40 [.str [],.sl .nil 7 []] (.t 25) (.t 28)),zk 30 21,If 31 7 30,⟨none,none,.st 1 (.t 31) (.t 29),[]⟩])) .skip))
 (.seq (.seq (.reg [0] [Io 32 (.alloc [.bool false])]) (.both (.reg [1,2,3] [⟨none,none,.st 1 (.t 32) (.k (.bool true)),[]⟩,⟨none,none,.st 1 (.t 32) (.k (.bool false)),[]⟩,Il 33 1 32]) (.reg [2,1,3] [⟨none,none,.st 1 (.t 32) (.k (.bool false)),[]⟩,⟨none,none,.st 1 (.t 32) (.k (.bool true)),[]⟩,Il 33 1 32])))
 (.cond (.t 33) (.seq (.reg [0,1,2,3,4,5,6,7,8,9,10,11,12,13,14] [Im 34 0,zk 35 34,If 36 7 35,Il 37 1 36,Im 38 5,zF 39 2 37 38,If 40 1 39,Il 41 1 40,zc 42 7 3,zD 43 41,Io 44 (.bls 7 1 [.int .i64 0,.str [],.str [],.sl .nil 6 [],.sl .nil 2 [],.str [],.sl .nil 7 []] [(0,(.k (.agg [.int .i64 0,.str [],.str [],.sl .nil 6 [],.sl .nil 2 [],.str [],.sl .nil 7 []])))]),Io 45 (.appm 7 128 [.int .i64 0,.str [],.str [],.sl .nil 6 [],.sl .nil 2 [],.str [],.sl .nil 7 []] (.t 41) (.t 44)),zF 46 2 37 38,If 47 1 46,⟨none,none,.st 1 (.t 47) (.t 45),[]⟩])
 (.rg [zF 48 7 45 43,⟨none,none,.st 7 (.t 48) (.t 42),[]⟩])) (.reg [0,1,2,3,4,5,6,7,8,9,10,11,12,13,14,15,16,17,18] [Im 49 0,zk 50 49,If 51 7 50,Il 52 1 51,Im 53 5,Im 54 0,zk 55 54,If 56 7 55,Il 57 1 56,Im 58 5,zF 59 2 57 58,If 60 1 59,Il 61 1 60,zc 62 7 3,Io 63 (.bls 7 1 [.int .i64 0,.str [],.str [],.sl .nil 6 [],.sl .nil 2 [],.str [],.sl .nil 7 []] [(0,(.t 62))]),⟨some 64,none,.app 7 128 (.t 61) (.t 63),[3]⟩,zF 65 2 52 53,If 66 1 65,⟨none,none,.st 1 (.t 66) (.t 64),[]⟩]))))))⟩
theorem ck391:za Tryz.prog 391 ir391=true:=by kernel_rfl
def ir392:zf:=⟨44,2,[],.seq (.rg [Im 7 0,zk 8 7,If 9 3 8,zc 10 2 9,Im 11 1,Io 12 (.call 263 [(.t 10),(.t 11)]),Im 6 12,zr 13 6 0,zr 14 6 1,Io 4 (.alloc [.str [],.str [],.sl .nil 2 [],.sl .nil 7 []]),⟨none,none,.st 4 (.t 4) (.t 13),[]⟩,Im 5 14])
 (.seq (.seq (.rg [Im 15 0,zk 16 15,If 17 8 16,Il 18 1 17,Im 19 1,Io 20 (.lkp (.one .s) (.bool false) false (.t 18) (.t 19))])
 (.cond (.t 20) .ret .skip))
 (.seq (.rg [Im 21 0,zk 22 21,If 23 8 22,Il 24 1 23,Im 25 1,⟨none,none,.mup (.one .s) (.t 24) (.t 25) (.k (.bool true)),[]⟩])
 (.seq (.reg [0,1,2,3,4,5,6,7,8,9,10,11,12,13] [Im 26 5,Im 27 26,Jm 28 27 0,Jt 29 27 (.nilchk (.t 28)),Ja 30 27 0 29,Jt 31 27 (.ld 3 true (.t 30)),Jm 32 27 0,Jt 33 27 (.nilchk (.t 32)),Ja 34 27 6 33,Jl 35 27 1 34,Ja 36 27 1 4,Jl 37 27 1 36,Jt 38 27 (.call 393 [(.t 31),(.t 35),(.t 37)]),zI 39 27 38])
 (.cond (.t 39) (.rg [Im 40 0,If 41 3 4,Il 42 1 41,Io 43 (.call 264 [(.t 40),(.t 42)])]) .skip))))⟩
theorem ck392:za Tryz.prog 392 ir392=true:=by kernel_rfl
def ir393:zf:=⟨21,3,[.t 6],.seq (.rg [zp 3 0,zh 6 false])
 (.seq (.rg [Im 7 2,Io 8 (.bs .eql (.t 7) (.k (.str []))),Im 9 8,Fm 10 9 2,Fm 11 9 1,Jf 12 9 (.bs .eql (.t 10) (.t 11)),ye 13 9 12,Im 14 13,Jf 15 14 (.ld 3 true (.t 3)),Fm 16 14 2,Jf 17 14 (.call 178 [(.t 15),(.t 16)]),Fm 18 14 1,Jf 19 14 (.call 148 [(.t 17),(.t 18)]),ye 20 14 19,Im 6 20])
 .ret)⟩
theorem ck393:za Tryz.prog 393 ir393=true:=by kernel_rfl
def ir419:zf:=⟨8,2,[.t 3],.seq (.rg [zp 2 0,zh 3 false])
 (.seq (.rg [If 4 0 2,Il 5 1 4,Il 6 1 1,Io 7 (.bs .eql (.t 5) (.t 6)),Im 3 7])
 .ret)⟩
theorem ck419:za Tryz.prog 419 ir419=true:=by kernel_rfl
def ir431:zf:=⟨26,2,[.t 3],.seq (.rg [zp 2 0,zh 3 false])
 (.seq (.rg [If 4 0 2,Il 5 1 4,zN 6 5 2,Im 7 6,Ja 8 7 5 2,Jl 9 7 1 8,Jt 10 7 (.bs .neq (.t 9) (.k (.str []))),zI 11 7 10,Im 12 11,Jt 13 12 (.ld 3 true (.t 1)),Ja 14 12 5 2,Jl 15 12 1 14,Jt 16 12 (.call 177 [(.t 13),(.t 15)]),Jt 17 12 (.not (.t 16)),zI 18 12 17,Im 19 18,Jf 20 19 (.ld 3 true (.t 1)),Fa 21 19 6 2,Fl 22 19 1 21,Jf 23 19 (.call 335 [(.t 20),(.t 22)]),Jf 24 19 (.not (.t 23)),ye 25 19 24,Im 3 25])
 .ret)⟩
theorem ck431:za Tryz.prog 431 ir431=true:=by kernel_rfl
def ir433:zf:=⟨9,2,[.t 3],.seq (.rg [zp 2 0,zh 3 false])
 (.seq (.rg [If 4 0 2,Il 5 1 4,If 6 0 1,Il 7 1 6,Io 8 (.bs .eql (.t 5) (.t 7)),Im 3 8])
 .ret)⟩
theorem ck433:za Tryz.prog 433 ir433=true:=by kernel_rfl
def ir435:zf:=⟨37,2,[.t 4],.seq (.rg [Io 4 (.mv (.k (.sl .nil 1 [])))])
 (.seq (.seq (.rg [Im 9 1,zD 10 9,zj 11 0])
 (.block 0 (.loop [0,9,10,11] (.seq (.rg [zK 12 11 10])
 (.seq (.cond (.t 12) .skip (.exit 0))
 (.seq (.block 1 (.seq (.rg [zF 13 7 9 11,zc 14 7 13,Io 6 (.alloc [.int .i64 0,.str [],.str [],.sl .nil 6 [],.sl .nil 2 [],.str [],.sl .nil 7 []]),⟨none,none,.st 7 (.t 6) (.t 14),[]⟩])
 (.seq (.rg [Im 15 0,If 16 3 6,Il 17 1 16,Io 18 (.call 497 [(.t 15),(.t 17)]),Im 0 18])
 (.seq (.seq (.rg [If 19 4 6,Il 20 1 19,zD 21 20,zj 22 0])
 (.block 2 (.loop [0,6,9,10,11,20,21,22] (.seq (.rg [zK 23 22 21])
 (.seq (.cond (.t 23) .skip (.exit 2))
 (.seq (.block 3 (.seq (.rg [zF 24 2 20 22,zc 25 2 24,Io 8 (.alloc [.str [],.sl .nil 6 []]),⟨none,none,.st 2 (.t 8) (.t 25),[]⟩])
 (.rg [Im 26 0,If 27 1 8,Il 28 1 27,Io 29 (.call 497 [(.t 26),(.t 28)]),Im 0 29])))
 (.rg [zC 30 22 1,Im 22 30])))))))
 (.rg [Im 31 0,If 32 6 6,Il 33 1 32,Io 34 (.call 435 [(.t 31),(.t 33)]),Im 0 34])))))
 (.rg [zC 35 11 1,Im 11 35])))))))
 (.seq (.rg [Im 36 0,Im 4 36])
 .ret))⟩
theorem ck435:za Tryz.prog 435 ir435=true:=by kernel_rfl
def ir436:zf:=⟨37,2,[.t 4],.seq (.rg [zp 2 0,Io 4 (.mv (.k (.sl .nil 1 [])))])
 (.seq (.rg [zc 9 2 2,Im 10 1,Io 11 (.call 149 [(.t 9),(.t 10)]),Im 5 11])
 (.seq (.rg [Io 6 (.mv (.k (.sl .nil 1 [])))])
 (.seq (.seq (.rg [If 12 1 2,Il 13 1 12,zD 14 13,zj 15 0])
 (.block 0 (.loop [5,6,13,14,15] (.seq (.rg [zK 16 15 14])
 (.seq (.cond (.t 16) .skip (.exit 0))
 (.seq (.block 1 (.seq (.rg [zF 17 4 13 15,zc 18 4 17,Io 8 (.alloc [.str [],.str [],.sl .nil 2 [],.sl .nil 7 []]),⟨none,none,.st 4 (.t 8) (.t 18),[]⟩])
 (.seq (.rg [Im 19 5,If 20 0 8,Il 21 1 20,Io 22 (.call 148 [(.t 19),(.t 21)]),Im 23 22,Jm 24 23 6,Ja 25 23 0 8,Jl 26 23 1 25,Jt 27 23 (.call 148 [(.t 24),(.t 26)]),Jt 28 23 (.not (.t 27)),zI 29 23 28])
 (.cond (.t 29) (.rg [Im 30 6,If 31 0 8,Il 32 1 31,Io 33 (.bls 1 1 [.str []] [(0,(.t 32))]),z1 34 1 16 30 33,Im 6 34]) .skip))))
 (.rg [zC 35 15 1,Im 15 35])))))))
 (.seq (.rg [Im 36 6,Im 4 36])
 .ret))))⟩
theorem ck436:za Tryz.prog 436 ir436=true:=by kernel_rfl
def ir437:zf:=⟨8,2,[.t 3],.seq (.rg [zp 2 0,zh 3 false])
 (.seq (.rg [If 4 0 2,Il 5 1 4,Il 6 1 1,Io 7 (.bs .eql (.t 5) (.t 6)),Im 3 7])
 .ret)⟩
theorem ck437:za Tryz.prog 437 ir437=true:=by kernel_rfl
def ir438:zf:=⟨69,4,[.t 8],.seq (.rg [zp 4 0,zp 5 1,zp 6 2,zh 8 false])
 (.seq (.seq (.rg [If 13 0 6,Il 14 1 13])
 (.block 0 (.seq (.rg [zN 16 14 8,Im 15 16])
 (.cond (.t 15) (.seq (.rg [zc 17 3 5,Io 18 (.call 370 [(.t 17)]),Im 8 18])
 .ret) (.seq (.rg [zN 20 14 0,Im 19 20])
 (.cond (.t 19) (.seq (.rg [zc 21 3 5,Io 22 (.call 370 [(.t 21)]),Im 23 22,Jt 24 23 (.ld 3 true (.t 5)),Jt 25 23 (.call 236 [(.t 24)]),Jt 26 23 (.not (.t 25)),zI 27 23 26,Im 8 27])
 .ret) .skip))))))
 (.seq (.seq (.rg [zc 28 3 5,Io 29 (.call 370 [(.t 28)]),zW 30 29])
 (.cond (.t 30) (.seq (.rg [zh 8 false])
 .ret) .skip))
 (.seq (.rg [zc 32 3 5,Io 33 (.call 447 [(.t 32)]),Im 31 33,zr 34 31 0,zr 35 31 1,Io 9 (.alloc [.str [],.int .i64 0,.int .i64 0]),⟨none,none,.st 3 (.t 9) (.t 34),[]⟩,Im 10 35])
 (.seq (.block 1 (.seq (.rg [Im 37 10,zW 38 37,Im 36 38])
 (.cond (.t 36) (.seq (.rg [zc 39 3 4,If 40 0 5,Il 41 1 40,zc 42 5 6,Io 43 (.call 498 [(.t 39),(.t 41),(.t 42)]),Im 8 43])
 .ret) (.seq (.rg [If 45 0 6,Il 46 1 45,Io 47 (.bi .neq .i64 (.t 46) (.k (.int .i64 6))),Im 44 47])
 (.cond (.t 44) (.seq (.rg [Im 48 3,zW 49 48,Im 50 49,Jt 51 50 (.ld 3 true (.t 4)),Jt 52 50 (.ld 3 true (.t 9)),Jt 53 50 (.ld 5 true (.t 6)),Jt 54 50 (.call 438 [(.t 51),(.t 52),(.t 53),(.k (.bool false))]),zI 55 50 54,Im 8 55])
 .ret) .skip)))))
 (.seq (.seq (.rg [If 56 3 6,Il 57 1 56,zD 58 57,zj 59 0])
 (.block 2 (.loop [4,9,57,58,59] (.seq (.rg [zK 60 59 58])
 (.seq (.cond (.t 60) .skip (.exit 2))
 (.seq (.block 3 (.seq (.rg [zF 61 5 57 59,zc 62 5 61,Io 12 (.alloc [.int .i64 0,.int .i64 0,.str [],.sl .nil 5 [],.sl .nil 6 []]),⟨none,none,.st 5 (.t 12) (.t 62),[]⟩])
 (.seq (.rg [zc 63 3 4,zc 64 3 9,zc 65 5 12,Io 66 (.call 438 [(.t 63),(.t 64),(.t 65),(.k (.bool true))]),zW 67 66])
 (.cond (.t 67) (.seq (.rg [zh 8 false])
 .ret) .skip))))
 (.rg [zC 68 59 1,Im 59 68])))))))
 (.seq (.rg [zh 8 true])
 .ret))))))⟩
theorem ck438:za Tryz.prog 438 ir438=true:=by kernel_rfl
def ir439:zf:=⟨67,3,[.t 6],.seq (.rg [zp 3 0,Io 6 (.mv (.k (.sl .nil 5 [])))])
 (.seq (.rg [Io 7 (.mv (.k (.sl .nil 5 [])))])
 (.seq (.seq (.rg [Im 14 2,zD 15 14,zj 16 0])
 (.block 0 (.loop [1,3,7,14,15,16] (.seq (.rg [zK 17 16 15])
 (.seq (.cond (.t 17) .skip (.exit 0))
 (.seq (.block 1 (.seq (.rg [zF 18 7 14 16,zc 19 7 18,Io 9 (.alloc [.int .i64 0,.str [],.str [],.sl .nil 6 [],.sl .nil 2 [],.str [],.sl .nil 7 []]),⟨none,none,.st 7 (.t 9) (.t 19),[]⟩])
 (.seq (.seq (.rg [If 20 0 9,Il 21 1 20,zN 22 21 0])
 (.cond (.t 22) (.seq (.rg [zc 24 3 3,Im 25 1,If 26 2 9,Il 27 1 26,Io 28 (.call 340 [(.t 24),(.t 25),(.t 27)]),Im 23 28,zr 29 23 0,zr 30 23 1,Io 10 (.alloc [.str [],.sl .nil 10 [],.str [],.int .i64 0,.int .i64 0,.sl .nil 2 []]),⟨none,none,.st 6 (.t 10) (.t 29),[]⟩,Im 11 30])
 (.rg [Im 31 7,zc 32 3 3,If 33 1 10,Il 34 1 33,If 35 3 9,Il 36 1 35,Io 37 (.call 499 [(.t 32),(.t 34),(.t 36)]),z1 38 5 56 31 37,Im 7 38])) .skip))
 (.seq (.seq (.rg [If 39 4 9,Il 40 1 39,zD 41 40,zj 42 0])
 (.block 2 (.loop [1,3,7,9,14,15,16,40,41,42] (.seq (.rg [zK 43 42 41])
 (.seq (.cond (.t 43) .skip (.exit 2))
 (.seq (.block 3 (.seq (.rg [zF 44 2 40 42,zc 45 2 44,Io 13 (.alloc [.str [],.sl .nil 6 []]),⟨none,none,.st 2 (.t 13) (.t 45),[]⟩])
 (.reg [0,1,2,4,5,3,6,7,8] [Im 46 7,zc 47 3 3,zc 48 2 13,If 50 1 13,Il 51 1 50,⟨some 49,none,.call 347 [(.t 48)],[1,4]⟩,Io 52 (.call 499 [(.t 47),(.t 49),(.t 51)]),z1 53 5 56 46 52,Im 7 53])))
 (.rg [zC 54 42 1,Im 42 54])))))))
 (.reg [0,1,2,3,4,6,7,5,8,9,10] [Im 55 7,zc 56 3 3,zc 57 3 3,Im 58 1,zc 59 7 9,If 61 6 9,Il 62 1 61,⟨some 60,none,.call 341 [(.t 57),(.t 58),(.t 59)],[1,6]⟩,Io 63 (.call 439 [(.t 56),(.t 60),(.t 62)]),z1 64 5 56 55 63,Im 7 64])))))
 (.rg [zC 65 16 1,Im 16 65])))))))
 (.seq (.rg [Im 66 7,Im 6 66])
 .ret)))⟩
theorem ck439:za Tryz.prog 439 ir439=true:=by kernel_rfl
def ir442:zf:=⟨81,3,[.t 6],.seq (.rg [zp 4 1,zp 5 2,zh 6 false])
 (.seq (.rg [If 15 0 4,Il 16 1 15,If 17 0 5,Il 18 1 17,Io 19 (.bld [.int .i64 0,.int .i64 0] [(0,1,(.t 16)),(1,1,(.t 18))]),Io 7 (.alloc [.int .i64 0,.int .i64 0]),⟨none,none,.st 2 (.t 7) (.t 19),[]⟩])
 (.seq (.seq (.reg [0,1,2,3,4,5,6,7,8,9,10] [Im 21 0,zk 22 21,If 23 5 22,Il 24 1 23,zc 25 2 7,Io 26 (.lkp (.agg [(.i .i64),(.i .i64)]) (.bool false) true (.t 24) (.t 25)),Im 20 26,zr 27 20 0,zr 28 20 1,Im 8 27,Im 9 28])
 (.seq (.rg [Im 29 9])
 (.cond (.t 29) (.seq (.rg [Im 30 8,Im 6 30])
 .ret) .skip)))
 (.seq (.reg [0,1,2,3,4,5,6,7,8,9,10,11,12,13,14,15] [Im 32 0,zk 33 32,If 34 0 33,zc 35 3 34,If 36 8 4,Il 37 1 36,If 38 1 4,If 39 2 38,Il 40 1 39,Io 41 (.call 340 [(.t 35),(.t 37),(.t 40)]),Im 31 41,zr 42 31 0,zr 43 31 1,Io 10 (.alloc [.str [],.sl .nil 10 [],.str [],.int .i64 0,.int .i64 0,.sl .nil 2 []]),⟨none,none,.st 6 (.t 10) (.t 42),[]⟩,Im 11 43])
 (.seq (.reg [0,1,2,3,4,5,6,7,8,9,10,11,12,13,14,15] [Im 45 0,zk 46 45,If 47 0 46,zc 48 3 47,If 49 8 5,Il 50 1 49,If 51 1 5,If 52 2 51,Il 53 1 52,Io 54 (.call 340 [(.t 48),(.t 50),(.t 53)]),Im 44 54,zr 55 44 0,zr 56 44 1,Io 12 (.alloc [.str [],.sl .nil 10 [],.str [],.int .i64 0,.int .i64 0,.sl .nil 2 []]),⟨none,none,.st 6 (.t 12) (.t 55),[]⟩,Im 13 56])
 (.seq (.reg [0,1,2,3,4,5,6,7,8,9,10,11,12,13,14,15,16,17] [Im 57 0,zk 58 57,If 59 0 58,zc 60 3 59,If 61 2 10,zc 62 3 61,If 63 2 12,zc 64 3 63,Io 65 (.call 500 [(.t 60),(.t 62),(.t 64)]),Im 66 65,Jm 67 66 0,Jt 68 66 (.ld 10 true (.t 4)),Jt 69 66 (.ld 10 true (.t 5)),Jm 70 66 0,Jt 71 66 (.mkfn 442 [(.t 70)] []),Jt 72 66 (.call 444 [(.t 67),(.t 68),(.t 69),(.t 71)]),zI 73 66 72,Im 14 73])
 (.seq (.reg [0,1,2,3,4,5,6] [Im 74 0,zk 75 74,If 76 5 75,Il 77 1 76,zc 78 2 7,Im 79 14,⟨none,none,.mup (.agg [(.i .i64),(.i .i64)]) (.t 77) (.t 78) (.t 79),[]⟩])
 (.seq (.rg [Im 80 14,Im 6 80])
 .ret)))))))⟩
theorem ck442:za Tryz.prog 442 ir442=true:=by kernel_rfl
def ir443:zf:=⟨37,2,[.t 4],.seq (.rg [zh 4 false])
 (.seq (.seq (.rg [Im 9 0,zD 10 9,zj 11 0])
 (.block 0 (.loop [0,1,9,10,11] (.seq (.rg [zK 12 11 10])
 (.seq (.cond (.t 12) .skip (.exit 0))
 (.seq (.block 1 (.seq (.rg [zF 13 6 9 11,zc 14 6 13,Io 6 (.alloc [.str [],.int .i64 0,.int .i64 0,.str [],.sl .nil 5 [],.sl .nil 6 []]),⟨none,none,.st 6 (.t 6) (.t 14),[]⟩])
 (.seq (.rg [If 16 0 6,Il 17 1 16,Im 18 1,Io 19 (.call 59 [(.t 17),(.t 18)]),Im 15 19,zr 20 15 0,zr 21 15 1,Io 7 (.alloc [.int .i64 0,.int .i64 0,.str [],.sl .nil 5 [],.sl .nil 6 []]),⟨none,none,.st 5 (.t 7) (.t 20),[]⟩,Im 8 21])
 (.seq (.rg [Im 22 8,zW 23 22,Im 24 23,Fa 25 24 1 6,Jf 26 24 (.ld 5 true (.t 25)),Jf 27 24 (.ld 5 true (.t 7)),Jf 28 24 (.call 425 [(.t 26),(.t 27)]),Jf 29 24 (.not (.t 28)),ye 30 24 29])
 (.cond (.t 30) (.seq (.rg [zh 4 false])
 .ret) .skip)))))
 (.rg [zC 31 11 1,Im 11 31])))))))
 (.seq (.rg [Im 32 0,zD 33 32,Im 34 1,zD 35 34,Io 36 (.bi .eql .i64 (.t 33) (.t 35)),Im 4 36])
 .ret))⟩
theorem ck443:za Tryz.prog 443 ir443=true:=by kernel_rfl
def ir444:zf:=⟨45,4,[.t 8],.seq (.rg [zp 5 1,zp 6 2,zh 8 false])
 (.seq (.rg [Im 14 0,zc 15 10 6,Io 16 (.call 501 [(.t 14),(.t 15)]),Im 9 16])
 (.seq (.seq (.rg [Im 17 0,zc 18 10 5,Io 19 (.call 501 [(.t 17),(.t 18)]),zD 20 19,zj 21 0])
 (.block 0 (.loop [3,9,19,20,21] (.seq (.rg [zK 22 21 20])
 (.seq (.cond (.t 22) .skip (.exit 0))
 (.seq (.block 1 (.seq (.rg [zF 23 10 19 21,zc 24 10 23,Io 11 (.alloc [.int .i64 0,.int .i64 0,.str [],.str [],.sl .nil 6 [],.sl .nil 2 [],.str [],.sl .nil 7 [],.str [],.sl .nil 10 []]),⟨none,none,.st 10 (.t 11) (.t 24),[]⟩])
 (.scope (.seq .skip
 (.seq (.rg [Im 25 9,zD 26 25,zj 27 0])
 (.block 2 (.loop [3,9,11,19,20,21,25,26,27] (.seq (.rg [zK 28 27 26])
 (.seq (.cond (.t 28) .skip (.exit 2))
 (.seq (.block 3 (.seq (.rg [zF 29 10 25 27,zc 30 10 29,Io 13 (.alloc [.int .i64 0,.int .i64 0,.str [],.str [],.sl .nil 6 [],.sl .nil 2 [],.str [],.sl .nil 7 [],.str [],.sl .nil 10 []]),⟨none,none,.st 10 (.t 13) (.t 30),[]⟩])
 (.seq (.seq (.reg [0,1,3,4,2,5,6] [If 31 1 11,zc 32 7 31,If 34 1 13,zc 35 7 34,⟨some 33,none,.call 363 [(.t 32)],[3]⟩,Io 36 (.call 363 [(.t 35)]),Io 37 (.bs .neq (.t 33) (.t 36))])
 (.cond (.t 37) (.exit 3) .skip))
 (.seq (.rg [Im 38 3,zc 39 10 11,zc 40 10 13,Io 41 (.callv (.t 38) [(.t 39),(.t 40)]),zW 42 41])
 (.cond (.t 42) (.seq (.rg [zh 8 false])
 .ret) .skip)))))
 (.rg [zC 43 27 1,Im 27 43])))))))))))
 (.rg [zC 44 21 1,Im 21 44])))))))
 (.seq (.rg [zh 8 true])
 .ret)))⟩
theorem ck444:za Tryz.prog 444 ir444=true:=by kernel_rfl
def ir448:zf:=⟨76,3,[.c 6 5 true,.t 7],.seq (.rg [zp 3 0,zp 4 1,zp 5 2,Io 6 (.alloc [.int .i64 0,.int .i64 0,.str [],.sl .nil 5 [],.sl .nil 6 []]),zj 7 0])
 (.seq (.rg [If 14 3 5,Il 15 1 14,Im 8 15])
 (.seq (.seq (.rg [If 16 0 5,Il 17 1 16,Io 18 (.bi .neq .i64 (.t 17) (.k (.int .i64 6)))])
 (.cond (.t 18) (.rg [zc 19 5 5,Io 20 (.bls 5 1 [.int .i64 0,.int .i64 0,.str [],.sl .nil 5 [],.sl .nil 6 []] [(0,(.t 19))]),Im 8 20]) .skip))
 (.seq (.rg [Io 21 (.bld [.int .i64 0,.int .i64 0,.str [],.sl .nil 5 [],.sl .nil 6 []] [(0,1,(.k (.int .i64 6)))]),Io 9 (.alloc [.int .i64 0,.int .i64 0,.str [],.sl .nil 5 [],.sl .nil 6 []]),⟨none,none,.st 5 (.t 9) (.t 21),[]⟩])
 (.seq (.seq (.rg [Im 22 8,zD 23 22,zj 24 0])
 (.block 0 (.loop [3,4,5,6,9,22,23,24] (.seq (.rg [zK 25 24 23])
 (.seq (.cond (.t 25) .skip (.exit 0))
 (.seq (.block 1 (.seq (.rg [zF 26 5 22 24,zc 27 5 26,Io 11 (.alloc [.int .i64 0,.int .i64 0,.str [],.sl .nil 5 [],.sl .nil 6 []]),⟨none,none,.st 5 (.t 11) (.t 27),[]⟩])
 (.seq (.seq (.rg [If 28 0 5,Il 29 1 28,zN 30 29 6,Im 31 30,Ja 32 31 1 4,Jl 33 31 1 32,Jt 34 31 (.bi .gtr .i64 (.t 33) (.k (.int .i64 0))),zI 35 31 34,Im 36 35,Ja 37 36 0 11,Jl 38 36 1 37,Jt 39 36 (.bi .neq .i64 (.t 38) (.k (.int .i64 6))),zI 40 36 39,Im 41 40,Ja 42 41 0 11,Jl 43 41 1 42,Jt 44 41 (.bi .neq .i64 (.t 43) (.k (.int .i64 0))),zI 45 41 44,Im 46 45,Ja 47 46 3 3,Jl 48 46 1 47,Jm 49 46 48,Ja 50 49 0 11,Jl 51 49 1 50,Jt 52 49 (.bi .eql .i64 (.t 51) (.k (.int .i64 8))),Jt 53 46 (.pick (.t 49) (.t 52) (.k (.bool false))),Jt 54 46 (.not (.t 53)),zI 55 46 54])
 (.cond (.t 55) (.seq (.rg [Io 56 (.bld [.int .i64 0,.int .i64 0,.str [],.sl .nil 5 [],.sl .nil 6 []] []),⟨none,none,.st 5 (.t 6) (.t 56),[]⟩,zj 7 7])
 .ret) .skip))
 (.seq (.rg [zc 58 6 3,zc 59 3 4,zc 60 5 11,Io 61 (.call 371 [(.t 58),(.t 59),(.t 60)]),Im 57 61,zr 62 57 0,zr 63 57 1,Io 12 (.alloc [.int .i64 0,.int .i64 0,.str [],.sl .nil 5 [],.sl .nil 6 []]),⟨none,none,.st 5 (.t 12) (.t 62),[]⟩,Im 13 63])
 (.seq (.seq (.rg [Im 64 13,Io 65 (.bi .neq .i64 (.t 64) (.k (.int .i64 0)))])
 (.cond (.t 65) (.seq (.rg [Io 66 (.bld [.int .i64 0,.int .i64 0,.str [],.sl .nil 5 [],.sl .nil 6 []] []),Im 67 13,⟨none,none,.st 5 (.t 6) (.t 66),[]⟩,Im 7 67])
 .ret) .skip))
 (.rg [If 68 3 9,Il 69 1 68,zc 70 5 12,Io 71 (.bls 5 1 [.int .i64 0,.int .i64 0,.str [],.sl .nil 5 [],.sl .nil 6 []] [(0,(.t 70))]),z1 72 5 80 69 71,If 73 3 9,⟨none,none,.st 1 (.t 73) (.t 72),[]⟩]))))))
 (.rg [zC 74 24 1,Im 24 74])))))))
 (.seq (.rg [zc 75 5 9,⟨none,none,.st 5 (.t 6) (.t 75),[]⟩,zj 7 0])
 .ret)))))⟩
theorem ck448:za Tryz.prog 448 ir448=true:=by kernel_rfl
def ir449:zf:=⟨65,2,[.c 4 5 true,.t 5],.seq (.rg [zp 3 1,Io 4 (.alloc [.int .i64 0,.int .i64 0,.str [],.sl .nil 5 [],.sl .nil 6 []]),zj 5 0])
 (.seq (.block 0 (.seq (.rg [Im 7 0,Io 8 (.bs .eql (.t 7) (.k (.str [73,110,116]))),Im 9 8,Ja 10 9 0 3,Jl 11 9 1 10,Jt 12 9 (.bi .eql .i64 (.t 11) (.k (.int .i64 2))),zI 13 9 12,Im 14 13,Ja 15 14 1 3,Jl 16 14 1 15,Jt 17 14 (.bi .lss .i64 (.t 16) (.k (.int .i64 (-2147483648)))),Jm 18 14 17,Fa 19 18 1 3,Fl 20 18 1 19,Jf 21 18 (.bi .gtr .i64 (.t 20) (.k (.int .i64 2147483647))),Jt 22 14 (.pick (.t 18) (.k (.bool true)) (.t 21)),zI 23 14 22,Im 6 23])
 (.cond (.t 6) (.seq (.rg [Io 24 (.bld [.int .i64 0,.int .i64 0,.str [],.sl .nil 5 [],.sl .nil 6 []] []),⟨none,none,.st 5 (.t 4) (.t 24),[]⟩,zj 5 8])
 .ret) (.seq (.rg [Im 26 0,Io 27 (.bs .eql (.t 26) (.k (.str [73,68]))),Im 28 27,Ja 29 28 0 3,Jl 30 28 1 29,Jt 31 28 (.bi .eql .i64 (.t 30) (.k (.int .i64 2))),zI 32 28 31,Im 25 32])
 (.cond (.t 25) (.seq (.rg [If 33 1 3,Il 34 1 33,Io 35 (.call 502 [(.t 34),(.k (.int .i64 10))]),Io 36 (.call 15 [(.t 35)]),⟨none,none,.st 5 (.t 4) (.t 36),[]⟩,zj 5 0])
 .ret) (.seq (.seq (.rg [Im 38 0,Io 39 (.bs .eql (.t 38) (.k (.str [73,110,116]))),Im 40 39,Ja 41 40 0 3,Jl 42 40 1 41,Jt 43 40 (.bi .eql .i64 (.t 42) (.k (.int .i64 2))),zI 44 40 43,Im 37 44])
 (.cond (.t 37) .skip (.seq (.rg [Im 45 0,Io 46 (.bs .eql (.t 45) (.k (.str [66,111,111,108,101,97,110]))),Im 47 46,Ja 48 47 0 3,Jl 49 47 1 48,Jt 50 47 (.bi .eql .i64 (.t 49) (.k (.int .i64 1))),zI 51 47 50,Im 37 51])
 (.cond (.t 37) .skip (.rg [Im 52 0,Io 53 (.bs .eql (.t 52) (.k (.str [83,116,114,105,110,103]))),Im 54 53,Fm 55 54 0,Jf 56 54 (.bs .eql (.t 55) (.k (.str [73,68]))),ye 57 54 56,Im 58 57,Ja 59 58 0 3,Jl 60 58 1 59,Jt 61 58 (.bi .eql .i64 (.t 60) (.k (.int .i64 4))),zI 62 58 61,Im 37 62])))))
 (.cond (.t 37) (.seq (.rg [zc 63 5 3,⟨none,none,.st 5 (.t 4) (.t 63),[]⟩,zj 5 0])
 .ret) .skip)))))))
 (.seq (.rg [Io 64 (.bld [.int .i64 0,.int .i64 0,.str [],.sl .nil 5 [],.sl .nil 6 []] []),⟨none,none,.st 5 (.t 4) (.t 64),[]⟩,zj 5 7])
 .ret))⟩
theorem ck449:za Tryz.prog 449 ir449=true:=by kernel_rfl
def ir450:zf:=⟨27,3,[.c 6 5 true,.t 7],.seq (.rg [zp 3 0,zp 4 1,zp 5 2,Io 6 (.alloc [.int .i64 0,.int .i64 0,.str [],.sl .nil 5 [],.sl .nil 6 []]),zj 7 0])
 (.seq (.rg [zj 8 4])
 (.seq (.seq (.rg [If 9 3 3,Il 10 1 9])
 (.cond (.t 10) (.rg [zj 8 5]) .skip))
 (.seq (.seq (.rg [If 11 0 5,Il 12 1 11,Im 13 8,Io 14 (.bi .neq .i64 (.t 12) (.t 13)),Im 15 14,Fa 16 15 4 4,Fl 17 15 1 16,Fa 18 15 2 5,Fl 19 15 1 18,Jf 20 15 (.call 148 [(.t 17),(.t 19)]),Jf 21 15 (.not (.t 20)),ye 22 15 21])
 (.cond (.t 22) (.seq (.rg [Io 23 (.bld [.int .i64 0,.int .i64 0,.str [],.sl .nil 5 [],.sl .nil 6 []] []),⟨none,none,.st 5 (.t 6) (.t 23),[]⟩,zj 7 7])
 .ret) .skip))
 (.seq (.rg [If 24 2 5,Il 25 1 24,Io 26 (.call 15 [(.t 25)]),⟨none,none,.st 5 (.t 6) (.t 26),[]⟩,zj 7 0])
 .ret))))⟩
theorem ck450:za Tryz.prog 450 ir450=true:=by kernel_rfl
def ir451:zf:=⟨68,3,[.c 6 5 true,.t 7],.seq (.rg [Io 3 (.box (.t 0)),zp 4 1,zp 5 2,Io 6 (.alloc [.int .i64 0,.int .i64 0,.str [],.sl .nil 5 [],.sl .nil 6 []]),zj 7 0])
 (.seq (.seq (.rg [If 16 0 5,Il 17 1 16,Io 18 (.bi .neq .i64 (.t 17) (.k (.int .i64 7)))])
 (.cond (.t 18) (.seq (.rg [Io 19 (.bld [.int .i64 0,.int .i64 0,.str [],.sl .nil 5 [],.sl .nil 6 []] []),⟨none,none,.st 5 (.t 6) (.t 19),[]⟩,zj 7 7])
 .ret) .skip))
 (.seq (.seq (.rg [If 20 4 5,Il 21 1 20,zD 22 21,zj 23 0])
 (.block 0 (.loop [3,4,5,6,21,22,23] (.seq (.rg [zK 24 23 22])
 (.seq (.cond (.t 24) .skip (.exit 0))
 (.seq (.block 1 (.seq (.rg [zF 25 6 21 23,zc 26 6 25,Io 9 (.alloc [.str [],.int .i64 0,.int .i64 0,.str [],.sl .nil 5 [],.sl .nil 6 []]),⟨none,none,.st 6 (.t 9) (.t 26),[]⟩])
 (.seq (.rg [If 28 0 9,Il 29 1 28,If 30 4 5,Il 31 1 30,Io 32 (.call 59 [(.t 29),(.t 31)]),Im 27 32,zr 33 27 0,zr 34 27 1,Io 10 (.alloc [.int .i64 0,.int .i64 0,.str [],.sl .nil 5 [],.sl .nil 6 []]),⟨none,none,.st 5 (.t 10) (.t 33),[]⟩,Im 11 34])
 (.seq (.rg [If 36 5 4,Il 37 1 36,If 38 0 9,Il 39 1 38,Io 40 (.call 313 [(.t 37),(.t 39)]),Im 35 40,zr 41 35 0,zr 42 35 1,Io 12 (.alloc [.str [],.str [],.int .i64 0,.int .i64 0,.bool false,.int .i64 0,.int .i64 0,.str [],.sl .nil 5 [],.sl .nil 6 []]),⟨none,none,.st 10 (.t 12) (.t 41),[]⟩,Im 13 42])
 (.seq (.rg [Im 43 13,zW 44 43,Im 45 44,Jt 46 45 (.ld 6 true (.t 3)),Jt 47 45 (.ld 5 true (.t 10)),Jt 48 45 (.call 234 [(.t 46),(.t 47)]),zI 49 45 48])
 (.cond (.t 49) (.seq (.rg [Io 50 (.bld [.int .i64 0,.int .i64 0,.str [],.sl .nil 5 [],.sl .nil 6 []] []),⟨none,none,.st 5 (.t 6) (.t 50),[]⟩,zj 7 6])
 .ret) .skip))))))
 (.rg [zC 51 23 1,Im 23 51])))))))
 (.seq (.rg [If 52 4 3,⟨none,none,.st 1 (.t 52) (.k (.bool true)),[]⟩])
 (.seq (.rg [zc 54 6 3,If 55 5 4,Il 56 1 55,If 57 4 5,Il 58 1 57,Io 59 (.call 67 [(.t 54),(.t 56),(.t 58)]),Im 53 59,zr 60 53 0,zr 61 53 1,Im 14 60,Im 15 61])
 (.seq (.seq (.rg [Im 62 15,Io 63 (.bi .neq .i64 (.t 62) (.k (.int .i64 0)))])
 (.cond (.t 63) (.seq (.rg [Io 64 (.bld [.int .i64 0,.int .i64 0,.str [],.sl .nil 5 [],.sl .nil 6 []] []),Im 65 15,⟨none,none,.st 5 (.t 6) (.t 64),[]⟩,Im 7 65])
 .ret) .skip))
 (.seq (.rg [Im 66 14,Io 67 (.bld [.int .i64 0,.int .i64 0,.str [],.sl .nil 5 [],.sl .nil 6 []] [(0,1,(.k (.int .i64 7))),(4,1,(.t 66))]),⟨none,none,.st 5 (.t 6) (.t 67),[]⟩,zj 7 0])
 .ret))))))⟩
theorem ck451:za Tryz.prog 451 ir451=true:=by kernel_rfl
def ir452:zf:=⟨52,3,[.c 6 6 true,.t 7,.t 8],.seq (.rg [zp 5 2,Io 6 (.alloc [.str [],.sl .nil 10 [],.str [],.int .i64 0,.int .i64 0,.sl .nil 2 []]),Io 7 (.mv (.k (.sl .nil 6 []))),zj 8 0])
 (.seq (.rg [If 14 1 5,Il 15 1 14,Io 16 (.ia 7 (.t 15) (.k (.int .i64 0))),zc 17 7 16,Io 9 (.alloc [.int .i64 0,.str [],.str [],.sl .nil 6 [],.sl .nil 2 [],.str [],.sl .nil 7 []]),⟨none,none,.st 7 (.t 9) (.t 17),[]⟩])
 (.seq (.reg [0,1,2,3,4,5,6,7,8,9,10,11,12,13] [Im 19 0,zk 20 19,If 21 0 20,zc 22 3 21,Im 23 1,If 24 2 9,Il 25 1 24,Io 26 (.call 340 [(.t 22),(.t 23),(.t 25)]),Im 18 26,zr 27 18 0,zr 28 18 1,Io 10 (.alloc [.str [],.sl .nil 10 [],.str [],.int .i64 0,.int .i64 0,.sl .nil 2 []]),⟨none,none,.st 6 (.t 10) (.t 27),[]⟩,Im 11 28])
 (.seq (.seq (.rg [If 29 2 9,Il 30 1 29,Io 31 (.bs .eql (.t 30) (.k (.str [95,95,116,121,112,101,110,97,109,101])))])
 (.cond (.t 31) (.seq (.rg [zc 32 6 10,⟨none,none,.st 6 (.t 6) (.t 32),[]⟩,Io 7 (.mv (.k (.sl .nil 6 []))),zj 8 0])
 .ret) .skip))
 (.seq (.reg [0,1,2,3,4,5,6,7,8,9,10,11,12,13,14,15,16,17] [Im 34 0,zk 35 34,If 36 0 35,zc 37 3 36,If 38 1 10,Il 39 1 38,If 40 3 9,Il 41 1 40,Im 42 0,zk 43 42,If 44 5 43,Il 45 1 44,Io 46 (.call 503 [(.t 37),(.t 39),(.t 41),(.t 45)]),Im 33 46,zr 47 33 0,zr 48 33 1,Im 12 47,Im 13 48])
 (.seq (.rg [zc 49 6 10,Im 50 12,Im 51 13,⟨none,none,.st 6 (.t 6) (.t 49),[]⟩,Im 7 50,Im 8 51])
 .ret)))))⟩
theorem ck452:za Tryz.prog 452 ir452=true:=by kernel_rfl
def ir453:zf:=⟨21,4,[.c 8 5 true],.seq (.rg [zp 4 0,zp 5 1,zp 6 2,Io 8 (.alloc [.str [],.str [],.str [],.str [],.sl .nil 6 []])])
 (.seq (.reg [0,1,2,3,4,5,6,7,8,9,10,11,12] [If 9 4 6,Il 10 1 9,If 11 1 6,Il 12 1 11,If 13 2 6,Il 14 1 13,If 15 2 5,If 16 0 15,Il 17 1 16,Im 18 3,⟨some 19,none,.call 85 [(.t 18)],[1,3,5,8]⟩,Io 20 (.bld [.str [],.str [],.str [],.str [],.sl .nil 6 []] [(0,1,(.t 10)),(1,1,(.t 12)),(2,1,(.t 14)),(3,1,(.t 17)),(4,1,(.t 19))]),⟨none,none,.st 5 (.t 8) (.t 20),[]⟩])
 .ret)⟩
theorem ck453:za Tryz.prog 453 ir453=true:=by kernel_rfl
def ir454:zf:=⟨19,2,[.t 4],.seq (.rg [Io 4 (.mv (.k (.nilp)))])
 (.seq (.rg [Im 5 0,Im 6 0,zk 7 6,If 8 0 7,If 9 7 8,Il 10 1 9,Im 11 1,Io 12 (.bls 1 1 [.str []] [(0,(.t 11))]),z1 13 1 16 10 12,zk 14 5,If 15 0 14,If 16 7 15,⟨none,none,.st 1 (.t 16) (.t 13),[]⟩])
 (.seq (.rg [Im 17 0,Io 18 (.call 504 [(.t 17)]),Im 4 18])
 .ret))⟩
theorem ck454:za Tryz.prog 454 ir454=true:=by kernel_rfl
def ir455:zf:=⟨16,2,[.t 4],.seq (.rg [zp 3 1,Io 4 (.mv (.k (.sl .nil 2 [])))])
 (.seq (.rg [Im 6 0,zD 7 6,zC 8 7 1,Io 9 (.mks 2 24 (.t 8)),Im 5 9])
 (.seq (.reg [0,1,3,4,2,5,6] [Im 10 5,Im 11 0,zc 13 2 3,Io 14 (.bls 2 1 [.str [],.int .i64 0] [(0,(.t 13))]),⟨some 12,none,.app 2 24 (.t 10) (.t 11),[2]⟩,z1 15 2 24 12 14,Im 4 15])
 .ret))⟩
theorem ck455:za Tryz.prog 455 ir455=true:=by kernel_rfl
def ir456:zf:=⟨15,2,[.c 4 5 true],.seq (.rg [zp 2 0,Io 4 (.alloc [.int .i64 0,.int .i64 0,.str [],.sl .nil 5 [],.sl .nil 6 []])])
 (.seq (.rg [Im 8 1,If 9 2 2,Il 10 1 9,Io 11 (.call 59 [(.t 8),(.t 10)]),Im 7 11,zr 12 7 0,zr 13 7 1,Io 5 (.alloc [.int .i64 0,.int .i64 0,.str [],.sl .nil 5 [],.sl .nil 6 []]),⟨none,none,.st 5 (.t 5) (.t 12),[]⟩,Im 6 13])
 (.seq (.rg [zc 14 5 5,⟨none,none,.st 5 (.t 4) (.t 14),[]⟩])
 .ret))⟩
theorem ck456:za Tryz.prog 456 ir456=true:=by kernel_rfl
def ir457:zf:=⟨24,4,[],.seq (.rg [Im 8 1,zk 9 8,If 10 0 9,If 11 0 10,⟨none,none,.st 1 (.t 11) (.k (.int .i64 3)),[]⟩])
 (.rg [Im 12 0,Im 13 0,zk 14 13,If 15 8 14,Il 16 1 15,Im 17 2,Im 18 3,Io 19 (.bld [.sl .nil 2 [],.int .i64 0] [(0,1,(.t 17)),(1,1,(.t 18))]),Io 20 (.bls 2 1 [.sl .nil 2 [],.int .i64 0] [(0,(.t 19))]),z1 21 2 32 16 20,zk 22 12,If 23 8 22,⟨none,none,.st 1 (.t 23) (.t 21),[]⟩])⟩
theorem ck457:za Tryz.prog 457 ir457=true:=by kernel_rfl
def ir458:zf:=⟨98,5,[],.seq (.rg [zp 7 2,zp 8 3,Io 9 (.box (.t 4))])
 (.seq (.rg [Im 14 1,zc 15 3 7,Io 16 (.call 236 [(.t 15)]),zk 17 14,If 18 0 17,If 19 1 18,⟨none,none,.st 1 (.t 19) (.t 16),[]⟩])
 (.seq (.rg [zc 21 3 7,Io 22 (.call 447 [(.t 21)]),Im 20 22,zr 23 20 0,zr 24 20 1,Io 10 (.alloc [.str [],.int .i64 0,.int .i64 0]),⟨none,none,.st 3 (.t 10) (.t 23),[]⟩,Im 11 24])
 (.block 0 (.seq (.rg [If 40 0 8,Il 41 1 40,zN 42 41 0,Im 39 42])
 (.cond (.t 39) (.rg [Im 43 0,Im 44 1,If 45 7 9,Il 46 1 45,Io 47 (.call 463 [(.t 43),(.t 44),(.t 46)])]) (.seq (.rg [Im 49 11,Im 48 49])
 (.cond (.t 48) (.rg [Im 50 0,Im 51 1,zc 52 3 10,zc 53 5 8,zc 54 8 9,Io 55 (.call 505 [(.t 50),(.t 51),(.t 52),(.t 53),(.t 54)])]) (.seq (.reg [0,1,2,3,4,5,6,7,8] [Im 57 0,zk 58 57,If 59 0 58,zc 60 3 59,If 61 0 7,Il 62 1 61,Io 63 (.call 177 [(.t 60),(.t 62)]),zW 64 63,Im 56 64])
 (.cond (.t 56) (.seq (.reg [0,1,2,3,4,5,6,7,8,9,10,11,12,13] [Im 66 0,zk 67 66,If 68 0 67,zc 69 3 68,If 70 0 7,Il 71 1 70,zc 72 5 8,Io 73 (.call 506 [(.t 69),(.t 71),(.t 72)]),Im 65 73,zr 74 65 0,zr 75 65 1,Io 12 (.alloc [.int .i64 0,.int .i64 0,.str [],.sl .nil 5 [],.sl .nil 6 []]),⟨none,none,.st 5 (.t 12) (.t 74),[]⟩,Im 13 75])
 (.seq (.seq (.rg [Im 76 13,Io 77 (.bi .neq .i64 (.t 76) (.k (.int .i64 0)))])
 (.cond (.t 77) (.seq (.rg [Im 78 0,Im 79 1,If 80 7 9,Il 81 1 80,Im 82 13,Io 83 (.call 457 [(.t 78),(.t 79),(.t 81),(.t 82)])])
 .ret) .skip))
 (.rg [Im 84 1,zc 85 5 12,zk 86 84,If 87 0 86,If 88 2 87,⟨none,none,.st 5 (.t 88) (.t 85),[]⟩]))) (.seq (.rg [If 90 0 8,Il 91 1 90,Io 92 (.bi .neq .i64 (.t 91) (.k (.int .i64 4))),Im 89 92])
 (.cond (.t 89) (.rg [Im 93 0,Im 94 1,If 95 7 9,Il 96 1 95,Io 97 (.call 457 [(.t 93),(.t 94),(.t 96),(.k (.int .i64 7))])]) (.seq (.reg [0,1,2,3,4,5,6,7,8,9,10] [If 25 2 8,Il 26 1 25,Im 27 1,zc 28 3 7,If 29 0 9,If 30 1 29,⟨none,none,.st 1 (.t 30) (.t 26),[3]⟩,If 31 2 9,⟨none,none,.st 1 (.t 31) (.t 27),[3]⟩,If 32 3 9,⟨none,none,.st 3 (.t 32) (.t 28),[]⟩])
 (.reg [0,1,2,3,4,5] [Im 33 0,zk 34 33,If 35 6 34,Il 36 1 35,zc 37 8 9,Io 38 (.callv (.t 36) [(.t 37)])])))))))))))))⟩
theorem ck458:za Tryz.prog 458 ir458=true:=by kernel_rfl
def ir459:zf:=⟨18,1,[.t 2],.seq (.rg [Io 2 (.mv (.k (.sl .nil 7 [])))])
 (.seq (.rg [Io 3 (.mv (.k (.sl .nil 7 [])))])
 (.seq (.seq (.rg [Im 6 0,zD 7 6,zj 8 0])
 (.block 0 (.loop [3,6,7,8] (.seq (.rg [zK 9 8 7])
 (.seq (.cond (.t 9) .skip (.exit 0))
 (.seq (.block 1 (.seq (.rg [zF 10 7 6 8,zc 11 7 10,Io 5 (.alloc [.int .i64 0,.str [],.str [],.sl .nil 6 [],.sl .nil 2 [],.str [],.sl .nil 7 []]),⟨none,none,.st 7 (.t 5) (.t 11),[]⟩])
 (.rg [Im 12 3,If 13 6 5,Il 14 1 13,z1 15 7 128 12 14,Im 3 15])))
 (.rg [zC 16 8 1,Im 8 16])))))))
 (.seq (.rg [Im 17 3,Im 2 17])
 .ret)))⟩
theorem ck459:za Tryz.prog 459 ir459=true:=by kernel_rfl
def ir463:zf:=⟨15,3,[],.seq (.rg [Im 6 1,zk 7 6,If 8 0 7,If 9 1 8,Il 10 1 9])
 (.cond (.t 10) (.rg [Im 11 0,Im 12 1,Im 13 2,Io 14 (.call 457 [(.t 11),(.t 12),(.t 13),(.k (.int .i64 9))])]) .skip)⟩
theorem ck463:za Tryz.prog 463 ir463=true:=by kernel_rfl
def ir465:zf:=⟨8,2,[.t 3],.seq (.rg [zp 2 0,zh 3 false])
 (.seq (.rg [If 4 0 2,Il 5 1 4,Il 6 1 1,Io 7 (.bs .eql (.t 5) (.t 6)),Im 3 7])
 .ret)⟩
theorem ck465:za Tryz.prog 465 ir465=true:=by kernel_rfl
def ir470:zf:=⟨24,3,[.t 6,.t 7],.seq (.rg [zp 4 1,zh 6 false,zh 7 false])
 (.seq (.rg [Im 9 2,Io 10 (.mkfn 513 [] [(.t 4)]),Io 11 (.call 512 [(.t 9),(.t 10)]),Im 8 11])
 (.seq (.rg [Im 12 8,Io 13 (.bi .geq .i64 (.t 12) (.k (.int .i64 0))),Im 14 8,Io 15 (.bi .geq .i64 (.t 14) (.k (.int .i64 0))),Im 16 15,Jm 17 16 0,Jm 18 16 2,Jm 19 16 8,Jt 20 16 (.ia 2 (.t 18) (.t 19)),Jt 21 16 (.ld 2 true (.t 20)),Jt 22 16 (.call 514 [(.t 17),(.t 21)]),zI 23 16 22,Im 6 13,Im 7 23])
 .ret))⟩
theorem ck470:za Tryz.prog 470 ir470=true:=by kernel_rfl
def ir472:zf:=⟨8,2,[.t 3],.seq (.rg [zp 2 0,zh 3 false])
 (.seq (.rg [If 4 0 2,Il 5 1 4,Il 6 1 1,Io 7 (.bs .eql (.t 5) (.t 6)),Im 3 7])
 .ret)⟩
theorem ck472:za Tryz.prog 472 ir472=true:=by kernel_rfl
def ir497:zf:=⟨29,2,[.t 4],.seq (.rg [Io 4 (.mv (.k (.sl .nil 1 [])))])
 (.seq (.seq (.rg [Im 9 1,zD 10 9,zj 11 0])
 (.block 0 (.loop [0,9,10,11] (.seq (.rg [zK 12 11 10])
 (.seq (.cond (.t 12) .skip (.exit 0))
 (.seq (.block 1 (.seq (.rg [zF 13 6 9 11,zc 14 6 13,Io 6 (.alloc [.str [],.int .i64 0,.int .i64 0,.str [],.sl .nil 5 [],.sl .nil 6 []]),⟨none,none,.st 6 (.t 6) (.t 14),[]⟩])
 (.seq (.rg [If 15 1 6,zc 16 5 15,Io 17 (.call 493 [(.t 16)]),zD 18 17,zj 19 0])
 (.block 2 (.loop [0,9,10,11,17,18,19] (.seq (.rg [zK 20 19 18])
 (.seq (.cond (.t 20) .skip (.exit 2))
 (.seq (.block 3 (.seq (.rg [zF 21 1 17 19,Il 22 1 21,Im 8 22])
 (.rg [Im 23 0,Im 24 8,Io 25 (.call 532 [(.t 23),(.t 24)]),Im 0 25])))
 (.rg [zC 26 19 1,Im 19 26])))))))))
 (.rg [zC 27 11 1,Im 11 27])))))))
 (.seq (.rg [Im 28 0,Im 4 28])
 .ret))⟩
theorem ck497:za Tryz.prog 497 ir497=true:=by kernel_rfl
def ir498:zf:=⟨81,3,[.t 6],.seq (.rg [zp 3 0,zp 5 2,zh 6 false])
 (.seq (.rg [zc 10 3 3,Im 11 1,Io 12 (.call 299 [(.t 10),(.t 11)]),Im 9 12,zr 13 9 0,zr 14 9 1,Io 7 (.alloc [.int .i64 0,.str [],.sl .nil 1 [],.sl .nil 6 [],.sl .nil 1 [],.sl .nil 10 []]),⟨none,none,.st 6 (.t 7) (.t 13),[]⟩,Im 8 14])
 (.seq (.block 0 (.seq (.rg [Im 16 8,zW 17 16,Im 15 17])
 (.cond (.t 15) (.seq (.rg [zh 6 false])
 .ret) (.seq (.rg [If 19 0 7,Il 20 1 19,zN 21 20 4,Im 18 21])
 (.cond (.t 18) (.seq (.rg [If 22 0 5,Il 23 1 22,zN 24 23 5,Im 25 24,Ja 26 25 4 7,Jl 27 25 1 26,Ja 28 25 2 5,Jl 29 25 1 28,Jt 30 25 (.call 148 [(.t 27),(.t 29)]),zI 31 25 30,Im 6 31])
 .ret) (.seq (.rg [If 33 0 7,Il 34 1 33,zN 35 34 5,Im 32 35])
 (.cond (.t 32) (.seq (.rg [zc 36 3 3,If 37 5 7,Il 38 1 37,zc 39 5 5,Io 40 (.call 533 [(.t 36),(.t 38),(.t 39)]),Im 6 40])
 .ret) (.seq (.rg [If 42 0 7,Il 43 1 42,Io 44 (.bi .neq .i64 (.t 43) (.k (.int .i64 0))),Im 41 44])
 (.cond (.t 41) (.seq (.rg [zh 6 false])
 .ret) .skip)))))))))
 (.seq (.seq (.rg [Im 45 1])
 (.block 1 (.seq (.rg [Io 47 (.bs .eql (.t 45) (.k (.str [73,110,116]))),Im 46 47])
 (.cond (.t 46) (.seq (.rg [If 48 0 5,Il 49 1 48,zN 50 49 2,Im 51 50,Ja 52 51 1 5,Jl 53 51 1 52,Jt 54 51 (.bi .geq .i64 (.t 53) (.k (.int .i64 (-2147483648)))),zI 55 51 54,Im 56 55,Ja 57 56 1 5,Jl 58 56 1 57,Jt 59 56 (.bi .leq .i64 (.t 58) (.k (.int .i64 2147483647))),zI 60 56 59,Im 6 60])
 .ret) (.seq (.rg [Io 62 (.bs .eql (.t 45) (.k (.str [83,116,114,105,110,103]))),Im 61 62])
 (.cond (.t 61) (.seq (.rg [If 63 0 5,Il 64 1 63,zN 65 64 4,Im 6 65])
 .ret) (.seq (.rg [Io 67 (.bs .eql (.t 45) (.k (.str [66,111,111,108,101,97,110]))),Im 66 67])
 (.cond (.t 66) (.seq (.rg [If 68 0 5,Il 69 1 68,zN 70 69 1,Im 6 70])
 .ret) (.seq (.rg [Io 72 (.bs .eql (.t 45) (.k (.str [73,68]))),Im 71 72])
 (.cond (.t 71) (.seq (.rg [If 73 0 5,Il 74 1 73,zN 75 74 4,Im 76 75,Fa 77 76 0 5,Fl 78 76 1 77,Jf 79 76 (.bi .eql .i64 (.t 78) (.k (.int .i64 2))),ye 80 76 79,Im 6 80])
 .ret) .skip))))))))))
 (.seq (.rg [zh 6 false])
 .ret))))⟩
theorem ck498:za Tryz.prog 498 ir498=true:=by kernel_rfl
def ir499:zf:=⟨38,3,[.t 6],.seq (.rg [zp 3 0,Io 6 (.mv (.k (.sl .nil 5 [])))])
 (.seq (.rg [Io 7 (.mv (.k (.sl .nil 5 [])))])
 (.seq (.seq (.rg [Im 12 2,zD 13 12,zj 14 0])
 (.block 0 (.loop [1,3,7,12,13,14] (.seq (.rg [zK 15 14 13])
 (.seq (.cond (.t 15) .skip (.exit 0))
 (.seq (.block 1 (.seq (.rg [zF 16 6 12 14,zc 17 6 16,Io 9 (.alloc [.str [],.int .i64 0,.int .i64 0,.str [],.sl .nil 5 [],.sl .nil 6 []]),⟨none,none,.st 6 (.t 9) (.t 17),[]⟩])
 (.seq (.rg [Im 19 1,If 20 0 9,Il 21 1 20,Io 22 (.call 313 [(.t 19),(.t 21)]),Im 18 22,zr 23 18 0,zr 24 18 1,Io 10 (.alloc [.str [],.str [],.int .i64 0,.int .i64 0,.bool false,.int .i64 0,.int .i64 0,.str [],.sl .nil 5 [],.sl .nil 6 []]),⟨none,none,.st 10 (.t 10) (.t 23),[]⟩,Im 11 24])
 (.seq (.rg [Im 25 11])
 (.cond (.t 25) (.rg [Im 26 7,zc 27 3 3,If 28 1 10,zc 29 3 28,If 30 4 10,Il 31 1 30,If 32 1 9,zc 33 5 32,Io 34 (.call 534 [(.t 27),(.t 29),(.t 31),(.t 33)]),z1 35 5 56 26 34,Im 7 35]) .skip)))))
 (.rg [zC 36 14 1,Im 14 36])))))))
 (.seq (.rg [Im 37 7,Im 6 37])
 .ret)))⟩
theorem ck499:za Tryz.prog 499 ir499=true:=by kernel_rfl
def ir500:zf:=⟨44,3,[.t 6],.seq (.rg [zp 3 0,zp 4 1,zp 5 2,zh 6 false])
 (.seq (.seq (.rg [If 7 1 4,Il 8 1 7,If 9 1 5,Il 10 1 9,Io 11 (.bi .neq .i64 (.t 8) (.t 10)),Im 12 11,Fa 13 12 2 4,Fl 14 12 1 13,Fa 15 12 2 5,Fl 16 12 1 15,Jf 17 12 (.bi .neq .i64 (.t 14) (.t 16)),ye 18 12 17])
 (.cond (.t 18) (.seq (.rg [zh 6 false])
 .ret) .skip))
 (.seq (.seq (.rg [zc 19 3 3,If 20 0 4,Il 21 1 20,Io 22 (.call 176 [(.t 19),(.t 21)]),Im 23 22,Jf 24 23 (.ld 3 true (.t 3)),Fa 25 23 0 5,Fl 26 23 1 25,Jf 27 23 (.call 176 [(.t 24),(.t 26)]),ye 28 23 27])
 (.cond (.t 28) (.seq (.rg [If 29 0 4,Il 30 1 29,If 31 0 5,Il 32 1 31,Io 33 (.bs .eql (.t 30) (.t 32)),Im 6 33])
 .ret) .skip))
 (.seq (.rg [zc 34 3 3,If 35 0 4,Il 36 1 35,Io 37 (.call 177 [(.t 34),(.t 36)]),Im 38 37,Jt 39 38 (.ld 3 true (.t 3)),Ja 40 38 0 5,Jl 41 38 1 40,Jt 42 38 (.call 177 [(.t 39),(.t 41)]),zI 43 38 42,Im 6 43])
 .ret)))⟩
theorem ck500:za Tryz.prog 500 ir500=true:=by kernel_rfl
def ir501:zf:=⟨10,2,[.t 4],.seq (.rg [zp 3 1,Io 4 (.mv (.k (.sl .nil 10 [])))])
 (.seq (.rg [Im 5 0,If 6 9 3,Il 7 1 6,Io 8 (.mkm (.one .s)),Io 9 (.call 362 [(.t 5),(.t 7),(.t 8)]),Im 4 9])
 .ret)⟩
theorem ck501:za Tryz.prog 501 ir501=true:=by kernel_rfl
def ir503:zf:=⟨18,4,[.t 8,.t 9],.seq (.rg [zp 4 0,Io 8 (.mv (.k (.sl .nil 6 []))),zj 9 0])
 (.seq (.rg [zc 10 3 4,Im 11 3,Io 12 (.bld [.sl .nil 6 [],.str [],.str [],.bool false,.bool false,.sl .nil 6 []] [(0,3,(.t 10)),(3,1,(.k (.bool true))),(5,1,(.t 11))]),Im 13 1,Im 14 2,Io 15 (.call 67 [(.t 12),(.t 13),(.t 14)]),zr 16 15 0,zr 17 15 1,Im 8 16,Im 9 17])
 .ret)⟩
theorem ck503:za Tryz.prog 503 ir503=true:=by kernel_rfl
def ir504:zf:=⟨17,1,[.t 2],.seq (.rg [Io 2 (.mv (.k (.nilp)))])
 (.seq (.rg [Io 4 (.bld [.int .i64 0,.bool false,.int .i64 0,.int .i64 0,.str [],.sl .nil 5 [],.sl .nil 6 [],.sl .nil 1 [],.sl .nil 9 [],.sl .nil 1 []] []),Io 5 (.box (.t 4)),Im 3 5])
 (.seq (.rg [Im 6 0,Im 7 0,zk 8 7,If 9 9 8,Il 10 1 9,Im 11 3,Io 12 (.bls 1 1 [.nilp] [(0,(.t 11))]),z1 13 1 8 10 12,zk 14 6,If 15 9 14,⟨none,none,.st 1 (.t 15) (.t 13),[]⟩])
 (.seq (.rg [Im 16 3,Im 2 16])
 .ret)))⟩
theorem ck504:za Tryz.prog 504 ir504=true:=by kernel_rfl
def ir505:zf:=⟨48,5,[],.seq (.rg [zp 7 2,zp 8 3,zp 9 4])
 (.seq (.seq (.rg [If 13 0 8,Il 14 1 13,Io 15 (.bi .neq .i64 (.t 14) (.k (.int .i64 6)))])
 (.cond (.t 15) (.seq (.rg [Im 16 0,Im 17 1,If 18 7 9,Il 19 1 18,Io 20 (.call 457 [(.t 16),(.t 17),(.t 19),(.k (.int .i64 7))])])
 .ret) .skip))
 (.seq (.rg [Im 21 1,zk 22 21,If 23 0 22,If 24 0 23,⟨none,none,.st 1 (.t 24) (.k (.int .i64 1)),[]⟩])
 (.seq (.rg [If 25 3 8,Il 26 1 25,zD 27 26,zj 28 0])
 (.block 0 (.loop [0,1,7,9,26,27,28] (.seq (.rg [zK 29 28 27])
 (.seq (.cond (.t 29) .skip (.exit 0))
 (.seq (.block 1 (.seq (.rg [Im 30 28,zF 31 5 26 28,zc 32 5 31,Io 11 (.alloc [.int .i64 0,.int .i64 0,.str [],.sl .nil 5 [],.sl .nil 6 []]),Im 10 30,⟨none,none,.st 5 (.t 11) (.t 32),[]⟩])
 (.seq (.rg [zc 33 8 9,Io 12 (.alloc [.str [],.str [],.nilp,.str [],.int .i64 0,.int .i64 0,.sl .nil 7 [],.sl .nil 2 []]),⟨none,none,.st 8 (.t 12) (.t 33),[]⟩])
 (.seq (.rg [If 34 7 9,Il 35 1 34,Im 36 10,Io 37 (.bld [.str [],.int .i64 0] [(1,1,(.t 36))]),Io 38 (.call 455 [(.t 35),(.t 37)]),If 39 7 12,⟨none,none,.st 1 (.t 39) (.t 38),[]⟩])
 (.reg [0,1,3,4,5,2,6] [Im 40 0,Im 41 1,zc 43 3 7,zc 44 5 11,zc 45 8 12,⟨some 42,none,.call 504 [(.t 41)],[2,3,4]⟩,Io 46 (.call 458 [(.t 40),(.t 42),(.t 43),(.t 44),(.t 45)])])))))
 (.rg [zC 47 28 1,Im 28 47])))))))))⟩
theorem ck505:za Tryz.prog 505 ir505=true:=by kernel_rfl
def ir506:zf:=⟨96,3,[.c 6 5 true,.t 7],.seq (.rg [zp 3 0,zp 5 2,Io 6 (.alloc [.int .i64 0,.int .i64 0,.str [],.sl .nil 5 [],.sl .nil 6 []]),zj 7 0])
 (.seq (.seq (.rg [zc 11 5 5,Io 12 (.call 68 [(.t 11)]),zW 13 12,Im 14 13,Jf 15 14 (.ld 3 true (.t 3)),Fm 16 14 1,Jf 17 14 (.call 176 [(.t 15),(.t 16)]),Jf 18 14 (.not (.t 17)),ye 19 14 18])
 (.cond (.t 19) (.seq (.rg [Io 20 (.bld [.int .i64 0,.int .i64 0,.str [],.sl .nil 5 [],.sl .nil 6 []] []),⟨none,none,.st 5 (.t 6) (.t 20),[]⟩,zj 7 1])
 .ret) .skip))
 (.seq (.rg [zc 22 3 3,Im 23 1,Io 24 (.call 299 [(.t 22),(.t 23)]),Im 21 24,zr 25 21 0,zr 26 21 1,Io 8 (.alloc [.int .i64 0,.str [],.sl .nil 1 [],.sl .nil 6 [],.sl .nil 1 [],.sl .nil 10 []]),⟨none,none,.st 6 (.t 8) (.t 25),[]⟩,Im 9 26])
 (.seq (.rg [If 27 0 5,Il 28 1 27,zN 29 28 4,Im 10 29])
 (.seq (.block 0 (.seq (.rg [If 31 0 8,Il 32 1 31,zN 33 32 4,Im 30 33])
 (.cond (.t 30) (.rg [Im 34 10,Im 35 34,Ja 36 35 4 8,Jl 37 35 1 36,Ja 38 35 2 5,Jl 39 35 1 38,Jt 40 35 (.call 148 [(.t 37),(.t 39)]),zI 41 35 40,Im 10 41]) (.seq (.rg [Im 43 1,Io 44 (.bs .eql (.t 43) (.k (.str [73,110,116]))),Im 45 44,Ja 46 45 0 5,Jl 47 45 1 46,Jt 48 45 (.bi .eql .i64 (.t 47) (.k (.int .i64 2))),zI 49 45 48,Im 50 49,Ja 51 50 1 5,Jl 52 50 1 51,Jt 53 50 (.bi .lss .i64 (.t 52) (.k (.int .i64 (-2147483648)))),Jm 54 50 53,Fa 55 54 1 5,Fl 56 54 1 55,Jf 57 54 (.bi .gtr .i64 (.t 56) (.k (.int .i64 2147483647))),Jt 58 50 (.pick (.t 54) (.k (.bool true)) (.t 57)),zI 59 50 58,Im 42 59])
 (.cond (.t 42) (.seq (.rg [Io 60 (.bld [.int .i64 0,.int .i64 0,.str [],.sl .nil 5 [],.sl .nil 6 []] []),⟨none,none,.st 5 (.t 6) (.t 60),[]⟩,zj 7 8])
 .ret) (.seq (.rg [Im 62 1,Io 63 (.bs .eql (.t 62) (.k (.str [73,110,116]))),Im 61 63])
 (.cond (.t 61) (.rg [If 64 0 5,Il 65 1 64,zN 66 65 2,Im 10 66]) (.seq (.rg [Im 68 1,Io 69 (.bs .eql (.t 68) (.k (.str [66,111,111,108,101,97,110]))),Im 67 69])
 (.cond (.t 67) (.rg [If 70 0 5,Il 71 1 70,zN 72 71 1,Im 10 72]) (.seq (.rg [Im 74 1,Io 75 (.bs .eql (.t 74) (.k (.str [73,68]))),Im 76 75,Ja 77 76 0 5,Jl 78 76 1 77,Jt 79 76 (.bi .eql .i64 (.t 78) (.k (.int .i64 2))),zI 80 76 79,Im 73 80])
 (.cond (.t 73) (.seq (.rg [If 81 1 5,Il 82 1 81,Io 83 (.call 502 [(.t 82),(.k (.int .i64 10))]),Io 84 (.call 15 [(.t 83)]),⟨none,none,.st 5 (.t 6) (.t 84),[]⟩,zj 7 0])
 .ret) (.seq (.rg [Im 86 1,Io 87 (.bs .neq (.t 86) (.k (.str [73,68]))),Im 88 87,Jm 89 88 1,Jt 90 88 (.bs .neq (.t 89) (.k (.str [83,116,114,105,110,103]))),zI 91 88 90,Im 85 91])
 (.cond (.t 85) (.rg [zh 10 false]) .skip)))))))))))))
 (.seq (.seq (.rg [Im 92 10,zW 93 92])
 (.cond (.t 93) (.seq (.rg [Io 94 (.bld [.int .i64 0,.int .i64 0,.str [],.sl .nil 5 [],.sl .nil 6 []] []),⟨none,none,.st 5 (.t 6) (.t 94),[]⟩,zj 7 7])
 .ret) .skip))
 (.seq (.rg [zc 95 5 5,⟨none,none,.st 5 (.t 6) (.t 95),[]⟩,zj 7 0])
 .ret))))))⟩
theorem ck506:za Tryz.prog 506 ir506=true:=by kernel_rfl
def ir513:zf:=⟨8,2,[.t 3],.seq (.rg [zp 2 0,zh 3 false])
 (.seq (.rg [If 4 0 2,Il 5 1 4,Il 6 1 1,Io 7 (.bs .eql (.t 5) (.t 6)),Im 3 7])
 .ret)⟩
theorem ck513:za Tryz.prog 513 ir513=true:=by kernel_rfl
def ir514:zf:=⟨31,2,[.t 4],.seq (.rg [zp 3 1,zh 4 false])
 (.seq (.rg [If 8 1 3,Il 9 1 8,Io 10 (.call 59 [(.k (.str [105,102])),(.t 9)]),Im 7 10,zr 11 7 0,zr 12 7 1,Io 5 (.alloc [.int .i64 0,.int .i64 0,.str [],.sl .nil 5 [],.sl .nil 6 []]),⟨none,none,.st 5 (.t 5) (.t 11),[]⟩,Im 6 12])
 (.seq (.seq (.rg [If 13 0 5,Il 14 1 13,zN 15 14 8])
 (.cond (.t 15) (.rg [If 17 2 5,Il 18 1 17,Im 19 0,Io 20 (.call 59 [(.t 18),(.t 19)]),Im 16 20,zr 21 16 0,zr 22 16 1,⟨none,none,.st 5 (.t 5) (.t 21),[]⟩]) .skip))
 (.seq (.rg [If 23 0 5,Il 24 1 23,zN 25 24 1,Im 26 25,Ja 27 26 1 5,Jl 28 26 1 27,Jt 29 26 (.bi .eql .i64 (.t 28) (.k (.int .i64 1))),zI 30 26 29,Im 4 30])
 .ret)))⟩
theorem ck514:za Tryz.prog 514 ir514=true:=by kernel_rfl
def ir532:zf:=⟨32,2,[.t 4],.seq (.rg [Io 4 (.mv (.k (.sl .nil 1 [])))])
 (.scope (.seq (.rg [zj 5 0])
 (.seq .skip
 (.seq (.seq (.rg [Im 8 0,zD 9 8,zj 10 0])
 (.block 0 (.loop [0,1,5,8,9,10] (.seq (.rg [zK 11 10 9])
 (.seq (.cond (.t 11) .skip (.exit 0))
 (.seq (.block 1 (.seq (.rg [Im 12 10,zF 13 1 8 10,Il 14 1 13,Im 6 12,Im 7 14])
 (.seq (.block 2 (.seq (.rg [Im 16 7,Im 17 1,Io 18 (.bs .lss (.t 16) (.t 17)),Im 15 18])
 (.cond (.t 15) (.seq (.rg [Im 19 6,zC 20 19 1,Im 5 20])
 (.exit 1)) (.seq (.rg [Im 22 7,Im 23 1,Io 24 (.bs .eql (.t 22) (.t 23)),Im 21 24])
 (.cond (.t 21) (.seq (.rg [Im 25 0,Im 4 25])
 .ret) .skip)))))
 (.exit 0))))
 (.rg [zC 26 10 1,Im 10 26])))))))
 (.seq (.rg [Im 27 0,Im 28 5,Im 29 1,Io 30 (.blsm 1 1 [.str []] [(0,(.t 29))]),Io 31 (.call 552 [(.t 27),(.t 28),(.t 30)]),Im 4 31])
 .ret)))))⟩
theorem ck532:za Tryz.prog 532 ir532=true:=by kernel_rfl
def ir533:zf:=⟨74,3,[.t 6],.seq (.rg [zp 3 0,zp 5 2,zh 6 false])
 (.scope (.seq (.seq (.rg [If 15 0 5,Il 16 1 15,Io 17 (.bi .neq .i64 (.t 16) (.k (.int .i64 7)))])
 (.cond (.t 17) (.seq (.rg [zh 6 false])
 .ret) .skip))
 (.seq (.seq (.rg [If 18 4 5,Il 19 1 18,zD 20 19,zj 21 0])
 (.block 0 (.loop [1,3,5,19,20,21] (.seq (.rg [zK 22 21 20])
 (.seq (.cond (.t 22) .skip (.exit 0))
 (.seq (.block 1 (.seq (.rg [Im 23 21,zF 24 6 19 21,zc 25 6 24,Io 8 (.alloc [.str [],.int .i64 0,.int .i64 0,.str [],.sl .nil 5 [],.sl .nil 6 []]),Im 7 23,⟨none,none,.st 6 (.t 8) (.t 25),[]⟩])
 (.seq (.rg [Im 27 1,If 28 0 8,Il 29 1 28,Io 30 (.call 313 [(.t 27),(.t 29)]),Im 26 30,zr 31 26 0,zr 32 26 1,Io 9 (.alloc [.str [],.str [],.int .i64 0,.int .i64 0,.bool false,.int .i64 0,.int .i64 0,.str [],.sl .nil 5 [],.sl .nil 6 []]),⟨none,none,.st 10 (.t 9) (.t 31),[]⟩,Im 10 32])
 (.seq (.rg [Im 33 10,zW 34 33,Im 35 34,Jf 36 35 (.ld 3 true (.t 3)),Fa 37 35 1 9,Jf 38 35 (.ld 3 true (.t 37)),Fa 39 35 1 8,Jf 40 35 (.ld 5 true (.t 39)),Jf 41 35 (.call 438 [(.t 36),(.t 38),(.t 40),(.k (.bool false))]),Jf 42 35 (.not (.t 41)),ye 43 35 42,Im 44 43,Fa 45 44 4 5,Fl 46 44 1 45,Fm 47 44 7,Jf 48 44 (.sll 6 (.t 46) none (some (.t 47)) none),Jf 49 44 (.mkfn 554 [] [(.t 8)]),Jf 50 44 (.call 553 [(.t 48),(.t 49)]),ye 51 44 50])
 (.cond (.t 51) (.seq (.rg [zh 6 false])
 .ret) .skip)))))
 (.rg [zC 52 21 1,Im 21 52])))))))
 (.seq .skip
 (.seq (.seq (.rg [Im 53 1,zD 54 53,zj 55 0])
 (.block 2 (.loop [5,53,54,55] (.seq (.rg [zK 56 55 54])
 (.seq (.cond (.t 56) .skip (.exit 2))
 (.seq (.block 3 (.seq (.rg [zF 57 10 53 55,zc 58 10 57,Io 12 (.alloc [.str [],.str [],.int .i64 0,.int .i64 0,.bool false,.int .i64 0,.int .i64 0,.str [],.sl .nil 5 [],.sl .nil 6 []]),⟨none,none,.st 10 (.t 12) (.t 58),[]⟩])
 (.seq (.seq (.rg [If 60 0 12,Il 61 1 60,If 62 4 5,Il 63 1 62,Io 64 (.call 59 [(.t 61),(.t 63)]),Im 59 64,zr 65 59 0,zr 66 59 1,Io 13 (.alloc [.int .i64 0,.int .i64 0,.str [],.sl .nil 5 [],.sl .nil 6 []]),⟨none,none,.st 5 (.t 13) (.t 65),[]⟩,Im 14 66])
 (.seq (.rg [Im 67 14,Im 68 67,Jf 69 68 (.ld 10 true (.t 12)),Jf 70 68 (.call 349 [(.t 69)]),Jf 71 68 (.not (.t 70)),ye 72 68 71])
 (.cond (.t 72) (.exit 3) .skip)))
 (.seq (.rg [zh 6 false])
 .ret))))
 (.rg [zC 73 55 1,Im 55 73])))))))
 (.seq (.rg [zh 6 true])
 .ret))))))⟩
theorem ck533:za Tryz.prog 533 ir533=true:=by kernel_rfl
def ir534:zf:=⟨101,4,[.t 8],.seq (.rg [zp 4 0,zp 5 1,zp 7 3,Io 8 (.mv (.k (.sl .nil 5 [])))])
 (.seq (.seq (.rg [If 20 0 7,Il 21 1 20,zN 22 21 8])
 (.cond (.t 22) (.seq (.rg [If 23 2 7,Il 24 1 23,zc 25 3 5,Im 26 2,Io 27 (.bld [.str [],.str [],.int .i64 0,.int .i64 0,.bool false] [(0,1,(.t 24)),(1,3,(.t 25)),(4,1,(.t 26))]),Io 28 (.bls 5 1 [.str [],.str [],.int .i64 0,.int .i64 0,.bool false] [(0,(.t 27))]),Im 8 28])
 .ret) .skip))
 (.seq (.rg [Io 9 (.mv (.k (.sl .nil 5 [])))])
 (.seq (.rg [zc 30 3 5,Io 31 (.call 447 [(.t 30)]),Im 29 31,zr 32 29 0,zr 33 29 1,Io 10 (.alloc [.str [],.int .i64 0,.int .i64 0]),⟨none,none,.st 3 (.t 10) (.t 32),[]⟩,Im 11 33])
 (.seq (.block 0 (.seq (.rg [Im 35 11,Im 36 35,Ja 37 36 0 7,Jl 38 36 1 37,Jt 39 36 (.bi .eql .i64 (.t 38) (.k (.int .i64 6))),zI 40 36 39,Im 34 40])
 (.cond (.t 34) (.seq (.rg [If 41 3 7,Il 42 1 41,zD 43 42,zj 44 0])
 (.block 1 (.loop [4,9,10,42,43,44] (.seq (.rg [zK 45 44 43])
 (.seq (.cond (.t 45) .skip (.exit 1))
 (.seq (.block 2 (.seq (.rg [zF 46 5 42 44,zc 47 5 46,Io 13 (.alloc [.int .i64 0,.int .i64 0,.str [],.sl .nil 5 [],.sl .nil 6 []]),⟨none,none,.st 5 (.t 13) (.t 47),[]⟩])
 (.rg [Im 48 9,zc 49 3 4,zc 50 3 10,zc 51 5 13,Io 52 (.call 534 [(.t 49),(.t 50),(.k (.bool false)),(.t 51)]),z1 53 5 56 48 52,Im 9 53])))
 (.rg [zC 54 44 1,Im 44 54]))))))) (.seq (.rg [Im 56 11,Im 55 56])
 (.cond (.t 55) (.seq (.rg [zc 57 3 4,zc 58 3 10,zc 59 5 7,Io 60 (.call 534 [(.t 57),(.t 58),(.k (.bool false)),(.t 59)]),Im 8 60])
 .ret) (.seq (.rg [If 62 0 7,Il 63 1 62,zN 64 63 7,Im 61 64])
 (.cond (.t 61) (.scope (.seq (.rg [zc 66 3 4,If 67 0 5,Il 68 1 67,Io 69 (.call 299 [(.t 66),(.t 68)]),Im 65 69,zr 70 65 0,zr 71 65 1,Io 14 (.alloc [.int .i64 0,.str [],.sl .nil 1 [],.sl .nil 6 [],.sl .nil 1 [],.sl .nil 10 []]),⟨none,none,.st 6 (.t 14) (.t 70),[]⟩,Im 15 71])
 (.seq .skip
 (.seq (.rg [If 72 4 7,Il 73 1 72,zD 74 73,zj 75 0])
 (.block 3 (.loop [4,9,14,73,74,75] (.seq (.rg [zK 76 75 74])
 (.seq (.cond (.t 76) .skip (.exit 3))
 (.seq (.block 4 (.seq (.rg [zF 77 6 73 75,zc 78 6 77,Io 17 (.alloc [.str [],.int .i64 0,.int .i64 0,.str [],.sl .nil 5 [],.sl .nil 6 []]),⟨none,none,.st 6 (.t 17) (.t 78),[]⟩])
 (.seq (.rg [If 80 5 14,Il 81 1 80,If 82 0 17,Il 83 1 82,Io 84 (.call 313 [(.t 81),(.t 83)]),Im 79 84,zr 85 79 0,zr 86 79 1,Io 18 (.alloc [.str [],.str [],.int .i64 0,.int .i64 0,.bool false,.int .i64 0,.int .i64 0,.str [],.sl .nil 5 [],.sl .nil 6 []]),⟨none,none,.st 10 (.t 18) (.t 85),[]⟩,Im 19 86])
 (.seq (.seq (.rg [Im 87 19,zW 88 87])
 (.cond (.t 88) (.exit 4) .skip))
 (.rg [Im 89 9,zc 90 3 4,If 91 1 18,zc 92 3 91,If 93 4 18,Il 94 1 93,If 95 1 17,zc 96 5 95,Io 97 (.call 534 [(.t 90),(.t 92),(.t 94),(.t 96)]),z1 98 5 56 89 97,Im 9 98])))))
 (.rg [zC 99 75 1,Im 75 99])))))))))) .skip)))))))
 (.seq (.rg [Im 100 9,Im 8 100])
 .ret)))))⟩
theorem ck534:za Tryz.prog 534 ir534=true:=by kernel_rfl
def ir554:zf:=⟨9,2,[.t 3],.seq (.rg [zp 2 0,zh 3 false])
 (.seq (.rg [If 4 0 2,Il 5 1 4,If 6 0 1,Il 7 1 6,Io 8 (.bs .eql (.t 5) (.t 7)),Im 3 8])
 .ret)⟩
theorem ck554:za Tryz.prog 554 ir554=true:=by kernel_rfl
end Go.Proofs.YtdpfofoinaammaaGreatDoor
