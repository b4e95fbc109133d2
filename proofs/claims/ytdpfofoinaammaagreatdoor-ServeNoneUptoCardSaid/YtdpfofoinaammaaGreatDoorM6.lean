import Derived.Test.YtdpfofoinaammaaGreatDoorRows
import Derived.Test.YtdpfofoinaammaaGreatDoorM5
set_option maxRecDepth 100000
set_option linter.all false
namespace Go.Proofs.YtdpfofoinaammaaGreatDoor
open Go.Ab
def ir15:zf:=⟨5,1,[.c 2 5 true],.seq (.rg [Io 2 (.alloc [.int .i64 0,.int .i64 0,.str [],.sl .nil 5 [],.sl .nil 6 []])])
 (.seq (.rg [Im 3 0,Io 4 (.bld [.int .i64 0,.int .i64 0,.str [],.sl .nil 5 [],.sl .nil 6 []] [(0,1,(.k (.int .i64 4))),(2,1,(.t 3))]),⟨none,none,.st 5 (.t 2) (.t 4),[]⟩])
 .ret)⟩
theorem ck15:za Tryz.prog 15 ir15=true:=by kernel_rfl
def ir22:zf:=⟨14,1,[.c 2 3 true,.t 3],.seq (.rg [Io 2 (.alloc [.sl .nil 6 [],.str [],.str []]),zj 3 0])
 (.seq (.rg [Io 4 (.alloc [.sl .nil 6 [],.str [],.str []])])
 (.seq (.rg [Im 6 0,Io 7 (.mkfn 47 [] [(.t 4)]),Io 8 (.call 46 [(.t 6),(.t 7)]),Im 5 8])
 (.seq (.seq (.rg [Im 9 5,Io 10 (.bi .neq .i64 (.t 9) (.k (.int .i64 0)))])
 (.cond (.t 10) (.seq (.rg [Io 11 (.bld [.sl .nil 6 [],.str [],.str []] []),Im 12 5,⟨none,none,.st 3 (.t 2) (.t 11),[]⟩,Im 3 12])
 .ret) .skip))
 (.seq (.rg [zc 13 3 4,⟨none,none,.st 3 (.t 2) (.t 13),[]⟩,zj 3 0])
 .ret))))⟩
theorem ck22:za Tryz.prog 22 ir22=true:=by kernel_rfl
def ir27:zf:=⟨14,1,[.c 2 2 true,.t 3],.seq (.rg [Io 2 (.alloc [.sl .nil 5 [],.sl .nil 4 []]),zj 3 0])
 (.seq (.rg [Io 4 (.alloc [.sl .nil 5 [],.sl .nil 4 []])])
 (.seq (.rg [Im 6 0,Io 7 (.mkfn 60 [] [(.t 4)]),Io 8 (.call 46 [(.t 6),(.t 7)]),Im 5 8])
 (.seq (.seq (.rg [Im 9 5,Io 10 (.bi .neq .i64 (.t 9) (.k (.int .i64 0)))])
 (.cond (.t 10) (.seq (.rg [Io 11 (.bld [.sl .nil 5 [],.sl .nil 4 []] []),Im 12 5,⟨none,none,.st 2 (.t 2) (.t 11),[]⟩,Im 3 12])
 .ret) .skip))
 (.seq (.rg [zc 13 2 4,⟨none,none,.st 2 (.t 2) (.t 13),[]⟩,zj 3 0])
 .ret))))⟩
theorem ck27:za Tryz.prog 27 ir27=true:=by kernel_rfl
def ir47:zf:=⟨39,2,[],.seq (.rg [Im 6 0,Io 7 (.bld [.nilp,.sl .nil 6 [],.str [],.str [],.bool false] [(0,1,(.t 6))]),Io 8 (.box (.t 7)),Im 3 8])
 (.seq (.rg [Im 9 3,Io 10 (.call 48 [(.t 9)])])
 (.seq (.block 0 (.loop [1,3] (.seq (.seq (.rg [Im 11 3,zk 12 11,If 13 0 12,Il 14 1 13,Io 15 (.call 49 [(.t 14)])])
 (.cond (.t 15) .skip (.exit 0)))
 (.block 1 (.rg [Im 16 3,Io 17 (.call 48 [(.t 16)])])))))
 (.seq (.rg [Im 18 3,zk 19 18,If 20 1 19,zc 21 3 20,⟨none,none,.st 3 (.t 1) (.t 21),[]⟩])
 (.seq (.seq (.rg [Im 22 3,zk 23 22,If 24 4 23,Il 25 1 24])
 (.cond (.t 25) .ret .skip))
 (.seq (.rg [If 26 1 1,⟨none,none,.st 1 (.t 26) (.k (.str [81,117,101,114,121])),[]⟩])
 (.seq (.rg [If 27 0 1,Il 28 1 27,zD 29 28,zj 30 0])
 (.block 2 (.loop [1,28,29,30] (.seq (.rg [zK 31 30 29])
 (.seq (.cond (.t 31) .skip (.exit 2))
 (.seq (.block 3 (.seq (.rg [zF 32 6 28 30,zc 33 6 32,Io 5 (.alloc [.int .i64 0,.str [],.sl .nil 1 [],.sl .nil 6 [],.sl .nil 1 [],.sl .nil 10 []]),⟨none,none,.st 6 (.t 5) (.t 33),[]⟩])
 (.seq (.rg [If 34 1 5,Il 35 1 34,Io 36 (.bs .eql (.t 35) (.k (.str [77,117,116,97,116,105,111,110])))])
 (.cond (.t 36) (.rg [If 37 2 1,⟨none,none,.st 1 (.t 37) (.k (.str [77,117,116,97,116,105,111,110])),[]⟩]) .skip))))
 (.rg [zC 38 30 1,Im 30 38]))))))))))))⟩
theorem ck47:za Tryz.prog 47 ir47=true:=by kernel_rfl
def ir48:zf:=⟨80,1,[],.seq (.rg [Im 3 0,zk 4 3,If 5 0 4,Il 6 1 5,Io 7 (.call 100 [(.t 6)])])
 (.seq (.rg [Io 2 (.alloc [.int .i64 0,.str [],.sl .nil 1 [],.sl .nil 6 [],.sl .nil 1 [],.sl .nil 10 []])])
 (.seq (.block 0 (.seq (.rg [Im 14 0,zk 15 14,If 16 4 15,Il 17 1 16,zW 18 17,Im 19 18,Jm 20 19 0,Jt 21 19 (.nilchk (.t 20)),Ja 22 19 0 21,Jl 23 19 1 22,Jt 24 19 (.call 101 [(.t 23),(.k (.str [115,99,104,101,109,97]))]),zI 25 19 24,Im 13 25])
 (.cond (.t 13) (.seq (.rg [Im 26 0,Io 27 (.call 102 [(.t 26)])])
 .ret) (.seq (.rg [Im 29 0,zk 30 29,If 31 0 30,Il 32 1 31,Io 33 (.call 101 [(.t 32),(.k (.str [116,121,112,101]))]),Im 28 33])
 (.cond (.t 28) (.rg [Im 34 0,Io 35 (.call 103 [(.t 34),(.k (.int .i64 1))]),⟨none,none,.st 6 (.t 2) (.t 35),[]⟩]) (.seq (.rg [Im 37 0,zk 38 37,If 39 0 38,Il 40 1 39,Io 41 (.call 101 [(.t 40),(.k (.str [105,110,116,101,114,102,97,99,101]))]),Im 36 41])
 (.cond (.t 36) (.rg [Im 42 0,Io 43 (.call 103 [(.t 42),(.k (.int .i64 2))]),⟨none,none,.st 6 (.t 2) (.t 43),[]⟩]) (.seq (.rg [Im 45 0,zk 46 45,If 47 0 46,Il 48 1 47,Io 49 (.call 101 [(.t 48),(.k (.str [117,110,105,111,110]))]),Im 44 49])
 (.cond (.t 44) (.rg [Im 50 0,Io 51 (.call 104 [(.t 50)]),⟨none,none,.st 6 (.t 2) (.t 51),[]⟩]) (.seq (.rg [Im 53 0,zk 54 53,If 55 0 54,Il 56 1 55,Io 57 (.call 101 [(.t 56),(.k (.str [101,110,117,109]))]),Im 52 57])
 (.cond (.t 52) (.rg [Im 58 0,Io 59 (.call 105 [(.t 58)]),⟨none,none,.st 6 (.t 2) (.t 59),[]⟩]) (.seq (.rg [Im 61 0,zk 62 61,If 63 0 62,Il 64 1 63,Io 65 (.call 101 [(.t 64),(.k (.str [105,110,112,117,116]))]),Im 60 65])
 (.cond (.t 60) (.rg [Im 66 0,Io 67 (.call 106 [(.t 66)]),⟨none,none,.st 6 (.t 2) (.t 67),[]⟩]) (.rg [Im 8 0,zk 9 8,If 10 0 9,Il 11 1 10,Io 12 (.call 99 [(.t 11),(.k (.int .i64 2))])]))))))))))))))
 (.reg [0,1,2,3,4,5,6,7,8,9,10,11,12] [Im 68 0,Im 69 0,zk 70 69,If 71 1 70,If 72 0 71,Il 73 1 72,zc 74 6 2,Io 75 (.bls 6 1 [.int .i64 0,.str [],.sl .nil 1 [],.sl .nil 6 [],.sl .nil 1 [],.sl .nil 10 []] [(0,(.t 74))]),z1 76 6 120 73 75,zk 77 68,If 78 1 77,If 79 0 78,⟨none,none,.st 1 (.t 79) (.t 76),[]⟩])))⟩
theorem ck48:za Tryz.prog 48 ir48=true:=by kernel_rfl
def ir49:zf:=⟨13,1,[.t 2],.seq (.rg [zh 2 false])
 (.seq (.reg [0,1,2,3,4,5,6,7,8,9,10] [Im 3 0,zk 4 3,If 5 1 4,Il 6 1 5,Im 7 0,zk 8 7,If 9 0 8,Il 10 1 9,zD 11 10,zK 12 6 11,Im 2 12])
 .ret)⟩
theorem ck49:za Tryz.prog 49 ir49=true:=by kernel_rfl
def ir50:zf:=⟨13,1,[.t 2],.seq (.rg [zp 1 0,zj 2 0])
 (.seq (.seq (.rg [zj 3 1])
 (.block 0 (.loop [1,3] (.seq (.seq (.rg [Im 4 3,Io 5 (.bi .leq .i64 (.t 4) (.k (.int .i64 9)))])
 (.cond (.t 5) .skip (.exit 0)))
 (.seq (.block 1 (.seq (.rg [zc 8 3 1,Im 9 3,Io 10 (.call 107 [(.t 8),(.t 9)]),zW 11 10])
 (.cond (.t 11) (.seq (.rg [Im 12 3,Im 2 12])
 .ret) .skip)))
 (.rg [Im 6 3,zC 7 6 1,Im 3 7]))))))
 (.seq (.rg [zj 2 0])
 .ret))⟩
theorem ck50:za Tryz.prog 50 ir50=true:=by kernel_rfl
def ir51:zf:=⟨9,2,[.t 4],.seq (.rg [zh 4 false])
 (.seq (.rg [Im 5 0,Im 6 1,Io 7 (.call 108 [(.t 5),(.t 6)]),Io 8 (.bi .geq .i64 (.t 7) (.k (.int .i64 0))),Im 4 8])
 .ret)⟩
theorem ck51:za Tryz.prog 51 ir51=true:=by kernel_rfl
def ir53:zf:=⟨9,2,[.t 4],.seq (.rg [zh 4 false])
 (.seq (.rg [Im 5 0,Im 6 1,Io 7 (.call 109 [(.t 5),(.t 6)]),Io 8 (.bi .geq .i64 (.t 7) (.k (.int .i64 0))),Im 4 8])
 .ret)⟩
theorem ck53:za Tryz.prog 53 ir53=true:=by kernel_rfl
def ir56:zf:=⟨5,1,[.t 2],.seq (.rg [zh 2 false])
 (.seq (.rg [Im 3 0,Io 4 (.call 112 [(.t 3)]),Im 2 4])
 .ret)⟩
theorem ck56:za Tryz.prog 56 ir56=true:=by kernel_rfl
def ir59:zf:=⟨22,2,[.c 4 5 true,.t 5],.seq (.rg [Io 4 (.alloc [.int .i64 0,.int .i64 0,.str [],.sl .nil 5 [],.sl .nil 6 []]),zh 5 false])
 (.seq (.seq (.rg [Im 8 1,zD 9 8,zj 10 0])
 (.block 0 (.loop [0,4,8,9,10] (.seq (.rg [zK 11 10 9])
 (.seq (.cond (.t 11) .skip (.exit 0))
 (.seq (.block 1 (.seq (.rg [zF 12 6 8 10,zc 13 6 12,Io 7 (.alloc [.str [],.int .i64 0,.int .i64 0,.str [],.sl .nil 5 [],.sl .nil 6 []]),⟨none,none,.st 6 (.t 7) (.t 13),[]⟩])
 (.seq (.rg [If 14 0 7,Il 15 1 14,Im 16 0,Io 17 (.bs .eql (.t 15) (.t 16))])
 (.cond (.t 17) (.seq (.rg [If 18 1 7,zc 19 5 18,⟨none,none,.st 5 (.t 4) (.t 19),[]⟩,zh 5 true])
 .ret) .skip))))
 (.rg [zC 20 10 1,Im 10 20])))))))
 (.seq (.rg [Io 21 (.bld [.int .i64 0,.int .i64 0,.str [],.sl .nil 5 [],.sl .nil 6 []] []),⟨none,none,.st 5 (.t 4) (.t 21),[]⟩,zh 5 false])
 .ret))⟩
theorem ck59:za Tryz.prog 59 ir59=true:=by kernel_rfl
def ir60:zf:=⟨9,2,[],.seq (.rg [Im 3 0,Io 4 (.call 61 [(.t 3),(.t 1)])])
 (.block 0 (.loop [0,1] (.seq (.seq (.rg [Im 5 0,Io 6 (.call 49 [(.t 5)])])
 (.cond (.t 6) .skip (.exit 0)))
 (.block 1 (.rg [Im 7 0,Io 8 (.call 61 [(.t 7),(.t 1)])])))))⟩
theorem ck60:za Tryz.prog 60 ir60=true:=by kernel_rfl
def ir61:zf:=⟨63,2,[],.block 0 (.seq (.rg [Im 7 0,Io 8 (.call 118 [(.t 7),(.k (.str [123]))]),Im 6 8])
 (.cond (.t 6) (.reg [0,1,2,3,4,5,6,7,8,9,10,11,12] [Im 9 1,Im 10 1,zk 11 10,If 12 0 11,Il 13 1 12,Im 14 0,⟨some 15,none,.call 119 [(.t 14)],[4]⟩,Io 16 (.bld [.int .i64 0,.str [],.sl .nil 10 [],.sl .nil 2 [],.sl .nil 7 []] [(4,1,(.t 15))]),Io 17 (.bls 5 1 [.int .i64 0,.str [],.sl .nil 10 [],.sl .nil 2 [],.sl .nil 7 []] [(0,(.t 16))]),z1 18 5 96 13 17,zk 19 9,If 20 0 19,⟨none,none,.st 1 (.t 20) (.t 18),[]⟩]) (.seq (.rg [Im 22 0,Io 23 (.call 101 [(.t 22),(.k (.str [113,117,101,114,121]))]),Im 21 23])
 (.cond (.t 21) (.reg [0,1,2,3,4,5,6,7,8,9,10,11] [Im 24 1,Im 25 1,zk 26 25,If 27 0 26,Il 28 1 27,Im 29 0,⟨some 30,none,.call 120 [(.t 29),(.k (.int .i64 0))],[4]⟩,Io 31 (.bls 5 1 [.int .i64 0,.str [],.sl .nil 10 [],.sl .nil 2 [],.sl .nil 7 []] [(0,(.t 30))]),z1 32 5 96 28 31,zk 33 24,If 34 0 33,⟨none,none,.st 1 (.t 34) (.t 32),[]⟩]) (.seq (.rg [Im 36 0,Io 37 (.call 101 [(.t 36),(.k (.str [109,117,116,97,116,105,111,110]))]),Im 35 37])
 (.cond (.t 35) (.reg [0,1,2,3,4,5,6,7,8,9,10,11] [Im 38 1,Im 39 1,zk 40 39,If 41 0 40,Il 42 1 41,Im 43 0,⟨some 44,none,.call 120 [(.t 43),(.k (.int .i64 1))],[4]⟩,Io 45 (.bls 5 1 [.int .i64 0,.str [],.sl .nil 10 [],.sl .nil 2 [],.sl .nil 7 []] [(0,(.t 44))]),z1 46 5 96 42 45,zk 47 38,If 48 0 47,⟨none,none,.st 1 (.t 48) (.t 46),[]⟩]) (.seq (.rg [Im 50 0,Io 51 (.call 101 [(.t 50),(.k (.str [102,114,97,103,109,101,110,116]))]),Im 49 51])
 (.cond (.t 49) (.reg [0,1,2,3,4,5,6,7,8,9,10,11] [Im 52 1,Im 53 1,zk 54 53,If 55 1 54,Il 56 1 55,Im 57 0,⟨some 58,none,.call 121 [(.t 57)],[4]⟩,Io 59 (.bls 4 1 [.str [],.str [],.sl .nil 2 [],.sl .nil 7 []] [(0,(.t 58))]),z1 60 4 80 56 59,zk 61 52,If 62 1 61,⟨none,none,.st 1 (.t 62) (.t 60),[]⟩]) (.rg [Im 4 0,Io 5 (.call 99 [(.t 4),(.k (.int .i64 2))])])))))))))⟩
theorem ck61:za Tryz.prog 61 ir61=true:=by kernel_rfl
def ir62:zf:=⟨11,1,[.t 2],.seq (.rg [zp 1 0,zh 2 false])
 (.seq (.rg [zc 6 2 1,Io 7 (.call 122 [(.t 6)]),Im 5 7,zr 8 5 0,zr 9 5 1,Im 3 8,Im 4 9])
 (.seq (.rg [Im 10 4,Im 2 10])
 .ret))⟩
theorem ck62:za Tryz.prog 62 ir62=true:=by kernel_rfl
def ir65:zf:=⟨19,2,[.t 4],.seq (.rg [zj 4 0])
 (.seq (.seq (.rg [Im 6 0,zD 7 6,zj 8 0])
 (.block 0 (.loop [0,1,7,8] (.seq (.rg [zK 9 8 7])
 (.seq (.cond (.t 9) .skip (.exit 0))
 (.seq (.block 1 (.seq (.rg [Im 10 8,Im 5 10])
 (.seq (.rg [Im 11 1,Im 12 0,Im 13 5,zF 14 5 12 13,zc 15 5 14,Io 16 (.callv (.t 11) [(.t 15)])])
 (.cond (.t 16) (.seq (.rg [Im 17 5,Im 4 17])
 .ret) .skip))))
 (.rg [zC 18 8 1,Im 8 18])))))))
 (.seq (.rg [Io 4 (.mv (.k (.int .i64 (-1))))])
 .ret))⟩
theorem ck65:za Tryz.prog 65 ir65=true:=by kernel_rfl
def ir68:zf:=⟨5,1,[.t 2],.seq (.rg [zp 1 0,zh 2 false])
 (.seq (.rg [zc 3 5 1,Io 4 (.call 132 [(.t 3),(.k (.clo 56 [] []))]),Im 2 4])
 .ret)⟩
theorem ck68:za Tryz.prog 68 ir68=true:=by kernel_rfl
def ir70:zf:=⟨8,2,[.t 4],.seq (.rg [Io 4 (.mv (.k (.sl .nil 1 [])))])
 (.seq (.rg [Im 5 0,Im 6 1,Io 7 (.call 133 [(.t 5),(.t 6)]),Im 4 7])
 .ret)⟩
theorem ck70:za Tryz.prog 70 ir70=true:=by kernel_rfl
def ir71:zf:=⟨11,3,[.t 6],.seq (.rg [Io 6 (.mv (.k (.sl .nil 1 [])))])
 (.seq (.rg [Im 7 0,Im 8 1,Im 9 2,Io 10 (.call 134 [(.t 7),(.t 8),(.t 9)]),Im 6 10])
 .ret)⟩
theorem ck71:za Tryz.prog 71 ir71=true:=by kernel_rfl
def ir79:zf:=⟨25,1,[.t 2],.seq (.rg [zj 2 0])
 (.seq (.seq (.rg [Im 5 0,zD 6 5,Io 7 (.bi .lss .i64 (.t 6) (.k (.int .i64 1)))])
 (.cond (.t 7) (.rg [Io 8 (.mki 9 (.k (.str [115,108,105,99,101,115,46,77,105,110,58,32,101,109,112,116,121,32,108,105,115,116]))),⟨none,none,.pan (.t 8),[]⟩]) .skip))
 (.seq (.rg [Im 9 0,Io 10 (.ia 1 (.t 9) (.k (.int .i64 0))),Il 11 1 10,Im 3 11])
 (.seq (.seq (.rg [zj 4 1])
 (.block 0 (.loop [0,3,4] (.seq (.seq (.rg [Im 12 4,Im 13 0,zD 14 13,zK 15 12 14])
 (.cond (.t 15) .skip (.exit 0)))
 (.seq (.block 1 (.rg [Im 18 3,Im 19 0,Im 20 4,zF 21 1 19 20,Il 22 1 21,Io 23 (.mm false (.t 18) [(.t 22)]),Im 3 23]))
 (.rg [Im 16 4,zC 17 16 1,Im 4 17]))))))
 (.seq (.rg [Im 24 3,Im 2 24])
 .ret))))⟩
theorem ck79:za Tryz.prog 79 ir79=true:=by kernel_rfl
def ir82:zf:=⟨8,1,[.t 2],.seq (.rg [Io 2 (.mv (.k (.sl .nil 6 [])))])
 (.seq (.seq (.rg [Im 3 0,Io 4 (.isnil .s (.t 3))])
 (.cond (.t 4) (.seq (.rg [Io 2 (.mv (.k (.sl .nil 6 [])))])
 .ret) .skip))
 (.seq (.rg [Io 5 (.bls 6 0 [.int .i64 0,.str [],.sl .nil 1 [],.sl .nil 6 [],.sl .nil 1 [],.sl .nil 10 []] []),Im 6 0,z1 7 6 120 5 6,Im 2 7])
 .ret))⟩
theorem ck82:za Tryz.prog 82 ir82=true:=by kernel_rfl
def ir83:zf:=⟨8,1,[.t 2],.seq (.rg [Io 2 (.mv (.k (.sl .nil 5 [])))])
 (.seq (.seq (.rg [Im 3 0,Io 4 (.isnil .s (.t 3))])
 (.cond (.t 4) (.seq (.rg [Io 2 (.mv (.k (.sl .nil 5 [])))])
 .ret) .skip))
 (.seq (.rg [Io 5 (.bls 5 0 [.int .i64 0,.str [],.sl .nil 10 [],.sl .nil 2 [],.sl .nil 7 []] []),Im 6 0,z1 7 5 96 5 6,Im 2 7])
 .ret))⟩
theorem ck83:za Tryz.prog 83 ir83=true:=by kernel_rfl
def ir84:zf:=⟨8,1,[.t 2],.seq (.rg [Io 2 (.mv (.k (.sl .nil 4 [])))])
 (.seq (.seq (.rg [Im 3 0,Io 4 (.isnil .s (.t 3))])
 (.cond (.t 4) (.seq (.rg [Io 2 (.mv (.k (.sl .nil 4 [])))])
 .ret) .skip))
 (.seq (.rg [Io 5 (.bls 4 0 [.str [],.str [],.sl .nil 2 [],.sl .nil 7 []] []),Im 6 0,z1 7 4 80 5 6,Im 2 7])
 .ret))⟩
theorem ck84:za Tryz.prog 84 ir84=true:=by kernel_rfl
def ir85:zf:=⟨8,1,[.t 2],.seq (.rg [Io 2 (.mv (.k (.sl .nil 6 [])))])
 (.seq (.seq (.rg [Im 3 0,Io 4 (.isnil .s (.t 3))])
 (.cond (.t 4) (.seq (.rg [Io 2 (.mv (.k (.sl .nil 6 [])))])
 .ret) .skip))
 (.seq (.rg [Io 5 (.bls 6 0 [.str [],.int .i64 0,.int .i64 0,.str [],.sl .nil 5 [],.sl .nil 6 []] []),Im 6 0,z1 7 6 96 5 6,Im 2 7])
 .ret))⟩
theorem ck85:za Tryz.prog 85 ir85=true:=by kernel_rfl
def ir90:zf:=⟨8,1,[.t 2],.seq (.rg [Io 2 (.mv (.k (.sl .nil 7 [])))])
 (.seq (.seq (.rg [Im 3 0,Io 4 (.isnil .s (.t 3))])
 (.cond (.t 4) (.seq (.rg [Io 2 (.mv (.k (.sl .nil 7 [])))])
 .ret) .skip))
 (.seq (.rg [Io 5 (.bls 7 0 [.int .i64 0,.str [],.str [],.sl .nil 6 [],.sl .nil 2 [],.str [],.sl .nil 7 []] []),Im 6 0,z1 7 7 128 5 6,Im 2 7])
 .ret))⟩
theorem ck90:za Tryz.prog 90 ir90=true:=by kernel_rfl
def ir96:zf:=⟨8,1,[.t 2],.seq (.rg [Io 2 (.mv (.k (.sl .nil 1 [])))])
 (.seq (.seq (.rg [Im 3 0,Io 4 (.isnil .s (.t 3))])
 (.cond (.t 4) (.seq (.rg [Io 2 (.mv (.k (.sl .nil 1 [])))])
 .ret) .skip))
 (.seq (.rg [Io 5 (.bls 1 0 [.str []] []),Im 6 0,z1 7 1 16 5 6,Im 2 7])
 .ret))⟩
theorem ck96:za Tryz.prog 96 ir96=true:=by kernel_rfl
def ir97:zf:=⟨47,1,[.t 2,.t 3],.seq (.rg [Io 2 (.mv (.k (.sl .nil 2 []))),zj 3 0])
 (.scope (.seq (.block 0 (.seq (.rg [Im 10 0,WW 11 10,YV 12 11 8192,Im 9 12])
 (.cond (.t 9) (.seq (.rg [Io 2 (.mv (.k (.sl .nil 2 []))),zj 3 3])
 .ret) (.seq (.rg [Im 14 0,Io 15 (.call 152 [(.t 14)]),zW 16 15,Im 13 16])
 (.cond (.t 13) (.seq (.rg [Io 2 (.mv (.k (.sl .nil 2 []))),zj 3 2])
 .ret) .skip)))))
 (.seq (.rg [Io 4 (.mv (.k (.sl .nil 2 [])))])
 (.seq .skip
 (.seq (.seq (.rg [zj 5 0])
 (.block 1 (.loop [0,4,5] (.seq (.seq (.rg [Im 17 5,Im 18 0,WW 19 18,zK 20 17 19])
 (.cond (.t 20) .skip (.exit 1)))
 (.block 2 (.seq (.seq (.rg [Im 21 0,Im 22 5,Io 23 (.sls (.t 21) (some (.t 22)) none),Io 24 (.call 153 [(.t 23)]),Im 6 24])
 (.seq (.rg [Im 25 6,YV 26 25 0])
 (.cond (.t 26) (.seq (.rg [Im 27 5,Im 28 6,XM 29 27 28,Im 5 29])
 (.exit 2)) .skip)))
 (.seq (.rg [Im 31 0,Im 32 5,Io 33 (.sls (.t 31) (some (.t 32)) none),Io 34 (.call 154 [(.t 33)]),Im 30 34,zr 35 30 0,zr 36 30 1,Io 7 (.alloc [.int .i64 0,.str []]),⟨none,none,.st 2 (.t 7) (.t 35),[]⟩,Im 8 36])
 (.seq (.seq (.rg [Im 37 8,zN 38 37 0])
 (.cond (.t 38) (.seq (.rg [Io 2 (.mv (.k (.sl .nil 2 []))),zj 3 2])
 .ret) .skip))
 (.seq (.rg [Im 39 4,zc 40 2 7,Io 41 (.bls 2 1 [.int .i64 0,.str []] [(0,(.t 40))]),z1 42 2 24 39 41,Im 4 42])
 (.rg [Im 43 5,Im 44 8,XM 45 43 44,Im 5 45]))))))))))
 (.seq (.rg [Im 46 4,Im 2 46,zj 3 0])
 .ret))))))⟩
theorem ck97:za Tryz.prog 97 ir97=true:=by kernel_rfl
def ir99:zf:=⟨7,2,[],.rg [Im 4 1,Io 5 (.bld [.int .i64 0] [(0,1,(.t 4))]),Io 6 (.mki 223 (.t 5)),⟨none,none,.pan (.t 6),[]⟩]⟩
theorem ck99:za Tryz.prog 99 ir99=true:=by kernel_rfl
def ir100:zf:=⟨13,1,[],.seq (.rg [Im 2 0,Io 3 (.call 155 [(.t 2)]),Io 4 (.fld 0 1 false (.t 3)),zN 5 4 5])
 (.cond (.t 5) (.rg [Im 6 0,zk 7 6,If 8 1 7,Il 9 1 8,zC 10 9 1,zk 11 6,If 12 1 11,⟨none,none,.st 1 (.t 12) (.t 10),[]⟩]) .skip)⟩
theorem ck100:za Tryz.prog 100 ir100=true:=by kernel_rfl
def ir101:zf:=⟨18,2,[.t 4],.seq (.rg [zh 4 false])
 (.seq (.rg [Im 6 0,Im 7 1,Io 8 (.call 156 [(.t 6),(.t 7)]),Im 5 8])
 (.seq (.seq (.rg [Im 9 5])
 (.cond (.t 9) (.rg [Im 10 0,zk 11 10,If 12 1 11,Il 13 1 12,zC 14 13 1,zk 15 10,If 16 1 15,⟨none,none,.st 1 (.t 16) (.t 14),[]⟩]) .skip))
 (.seq (.rg [Im 17 5,Im 4 17])
 .ret)))⟩
theorem ck101:za Tryz.prog 101 ir101=true:=by kernel_rfl
def ir102:zf:=⟨59,1,[],.seq (.rg [Im 2 0,zk 3 2,If 4 4 3,⟨none,none,.st 1 (.t 4) (.k (.bool true)),[]⟩])
 (.seq (.rg [Im 5 0,zk 6 5,If 7 0 6,Il 8 1 7,Io 9 (.call 157 [(.t 8),(.k (.str [123]))])])
 (.seq (.seq (.rg [Im 10 0,zk 11 10,If 12 0 11,Il 13 1 12,Io 14 (.call 101 [(.t 13),(.k (.str [113,117,101,114,121]))]),zW 15 14])
 (.cond (.t 15) (.rg [Im 16 0,zk 17 16,If 18 0 17,Il 19 1 18,Io 20 (.call 99 [(.t 19),(.k (.int .i64 2))])]) .skip))
 (.seq (.rg [Im 21 0,zk 22 21,If 23 0 22,Il 24 1 23,Io 25 (.call 157 [(.t 24),(.k (.str [58]))])])
 (.seq (.rg [Im 26 0,Im 27 0,zk 28 27,If 29 0 28,Il 30 1 29,Io 31 (.call 158 [(.t 30)]),zk 32 26,If 33 1 32,If 34 1 33,⟨none,none,.st 1 (.t 34) (.t 31),[]⟩])
 (.seq (.seq (.rg [Im 35 0,zk 36 35,If 37 0 36,Il 38 1 37,Io 39 (.call 101 [(.t 38),(.k (.str [109,117,116,97,116,105,111,110]))])])
 (.cond (.t 39) (.seq (.rg [Im 40 0,zk 41 40,If 42 0 41,Il 43 1 42,Io 44 (.call 157 [(.t 43),(.k (.str [58]))])])
 (.rg [Im 45 0,Im 46 0,zk 47 46,If 48 0 47,Il 49 1 48,Io 50 (.call 158 [(.t 49)]),zk 51 45,If 52 1 51,If 53 2 52,⟨none,none,.st 1 (.t 53) (.t 50),[]⟩])) .skip))
 (.rg [Im 54 0,zk 55 54,If 56 0 55,Il 57 1 56,Io 58 (.call 157 [(.t 57),(.k (.str [125]))])]))))))⟩
theorem ck102:za Tryz.prog 102 ir102=true:=by kernel_rfl
def ir103:zf:=⟨47,2,[.c 4 6 true],.seq (.rg [Io 4 (.alloc [.int .i64 0,.str [],.sl .nil 1 [],.sl .nil 6 [],.sl .nil 1 [],.sl .nil 10 []])])
 (.seq (.rg [Im 6 1,Im 7 0,zk 8 7,If 9 0 8,Il 10 1 9,Io 11 (.call 158 [(.t 10)]),Io 12 (.bld [.int .i64 0,.str [],.sl .nil 1 [],.sl .nil 6 [],.sl .nil 1 [],.sl .nil 10 []] [(0,1,(.t 6)),(1,1,(.t 11))]),Io 5 (.alloc [.int .i64 0,.str [],.sl .nil 1 [],.sl .nil 6 [],.sl .nil 1 [],.sl .nil 10 []]),⟨none,none,.st 6 (.t 5) (.t 12),[]⟩])
 (.seq (.seq (.rg [Im 13 0,zk 14 13,If 15 0 14,Il 16 1 15,Io 17 (.call 101 [(.t 16),(.k (.str [105,109,112,108,101,109,101,110,116,115]))])])
 (.cond (.t 17) (.rg [Im 18 0,Io 19 (.call 159 [(.t 18),(.k (.str [38]))]),If 20 2 5,⟨none,none,.st 1 (.t 20) (.t 19),[]⟩]) .skip))
 (.seq (.rg [Im 21 0,zk 22 21,If 23 0 22,Il 24 1 23,Io 25 (.call 157 [(.t 24),(.k (.str [123]))])])
 (.seq (.reg [0,1,2,3,4,5,6,7] [If 26 3 5,Il 27 1 26,Im 28 0,⟨some 29,none,.call 160 [(.t 28)],[1]⟩,Io 30 (.bls 6 1 [.str [],.sl .nil 10 [],.str [],.int .i64 0,.int .i64 0,.sl .nil 2 []] [(0,(.t 29))]),z1 31 6 96 27 30,If 32 3 5,⟨none,none,.st 1 (.t 32) (.t 31),[]⟩])
 (.seq (.block 0 (.loop [0,4,5] (.seq (.seq (.rg [Im 33 0,zk 34 33,If 35 0 34,Il 36 1 35,Io 37 (.call 161 [(.t 36),(.k (.str [125]))]),zW 38 37])
 (.cond (.t 38) .skip (.exit 0)))
 (.block 1 (.reg [0,1,2,3,4,5,6,7] [If 39 3 5,Il 40 1 39,Im 41 0,⟨some 42,none,.call 160 [(.t 41)],[1]⟩,Io 43 (.bls 6 1 [.str [],.sl .nil 10 [],.str [],.int .i64 0,.int .i64 0,.sl .nil 2 []] [(0,(.t 42))]),z1 44 6 96 40 43,If 45 3 5,⟨none,none,.st 1 (.t 45) (.t 44),[]⟩])))))
 (.seq (.rg [zc 46 6 5,⟨none,none,.st 6 (.t 4) (.t 46),[]⟩])
 .ret))))))⟩
theorem ck103:za Tryz.prog 103 ir103=true:=by kernel_rfl
def ir104:zf:=⟨19,1,[.c 2 6 true],.seq (.rg [Io 2 (.alloc [.int .i64 0,.str [],.sl .nil 1 [],.sl .nil 6 [],.sl .nil 1 [],.sl .nil 10 []])])
 (.seq (.rg [Im 4 0,zk 5 4,If 6 0 5,Il 7 1 6,Io 8 (.call 158 [(.t 7)]),Io 9 (.bld [.int .i64 0,.str [],.sl .nil 1 [],.sl .nil 6 [],.sl .nil 1 [],.sl .nil 10 []] [(0,1,(.k (.int .i64 3))),(1,1,(.t 8))]),Io 3 (.alloc [.int .i64 0,.str [],.sl .nil 1 [],.sl .nil 6 [],.sl .nil 1 [],.sl .nil 10 []]),⟨none,none,.st 6 (.t 3) (.t 9),[]⟩])
 (.seq (.rg [Im 10 0,zk 11 10,If 12 0 11,Il 13 1 12,Io 14 (.call 157 [(.t 13),(.k (.str [61]))])])
 (.seq (.rg [Im 15 0,Io 16 (.call 159 [(.t 15),(.k (.str [124]))]),If 17 4 3,⟨none,none,.st 1 (.t 17) (.t 16),[]⟩])
 (.seq (.rg [zc 18 6 3,⟨none,none,.st 6 (.t 2) (.t 18),[]⟩])
 .ret))))⟩
theorem ck104:za Tryz.prog 104 ir104=true:=by kernel_rfl
def ir105:zf:=⟨36,1,[.c 2 6 true],.seq (.rg [Io 2 (.alloc [.int .i64 0,.str [],.sl .nil 1 [],.sl .nil 6 [],.sl .nil 1 [],.sl .nil 10 []])])
 (.seq (.rg [Im 4 0,zk 5 4,If 6 0 5,Il 7 1 6,Io 8 (.call 158 [(.t 7)]),Io 9 (.bld [.int .i64 0,.str [],.sl .nil 1 [],.sl .nil 6 [],.sl .nil 1 [],.sl .nil 10 []] [(0,1,(.k (.int .i64 4))),(1,1,(.t 8))]),Io 3 (.alloc [.int .i64 0,.str [],.sl .nil 1 [],.sl .nil 6 [],.sl .nil 1 [],.sl .nil 10 []]),⟨none,none,.st 6 (.t 3) (.t 9),[]⟩])
 (.seq (.rg [Im 10 0,zk 11 10,If 12 0 11,Il 13 1 12,Io 14 (.call 157 [(.t 13),(.k (.str [123]))])])
 (.seq (.reg [0,1,2,3,4,5,6,7] [If 15 4 3,Il 16 1 15,Im 17 0,⟨some 18,none,.call 162 [(.t 17)],[1]⟩,Io 19 (.bls 1 1 [.str []] [(0,(.t 18))]),z1 20 1 16 16 19,If 21 4 3,⟨none,none,.st 1 (.t 21) (.t 20),[]⟩])
 (.seq (.block 0 (.loop [0,2,3] (.seq (.seq (.rg [Im 22 0,zk 23 22,If 24 0 23,Il 25 1 24,Io 26 (.call 161 [(.t 25),(.k (.str [125]))]),zW 27 26])
 (.cond (.t 27) .skip (.exit 0)))
 (.block 1 (.reg [0,1,2,3,4,5,6,7] [If 28 4 3,Il 29 1 28,Im 30 0,⟨some 31,none,.call 162 [(.t 30)],[1]⟩,Io 32 (.bls 1 1 [.str []] [(0,(.t 31))]),z1 33 1 16 29 32,If 34 4 3,⟨none,none,.st 1 (.t 34) (.t 33),[]⟩])))))
 (.seq (.rg [zc 35 6 3,⟨none,none,.st 6 (.t 2) (.t 35),[]⟩])
 .ret)))))⟩
theorem ck105:za Tryz.prog 105 ir105=true:=by kernel_rfl
def ir106:zf:=⟨19,1,[.c 2 6 true],.seq (.rg [Io 2 (.alloc [.int .i64 0,.str [],.sl .nil 1 [],.sl .nil 6 [],.sl .nil 1 [],.sl .nil 10 []])])
 (.seq (.rg [Im 4 0,zk 5 4,If 6 0 5,Il 7 1 6,Io 8 (.call 158 [(.t 7)]),Io 9 (.bld [.int .i64 0,.str [],.sl .nil 1 [],.sl .nil 6 [],.sl .nil 1 [],.sl .nil 10 []] [(0,1,(.k (.int .i64 5))),(1,1,(.t 8))]),Io 3 (.alloc [.int .i64 0,.str [],.sl .nil 1 [],.sl .nil 6 [],.sl .nil 1 [],.sl .nil 10 []]),⟨none,none,.st 6 (.t 3) (.t 9),[]⟩])
 (.seq (.rg [Im 10 0,zk 11 10,If 12 0 11,Il 13 1 12,Io 14 (.call 157 [(.t 13),(.k (.str [123]))])])
 (.seq (.rg [Im 15 0,Io 16 (.call 163 [(.t 15),(.k (.str [125]))]),If 17 5 3,⟨none,none,.st 1 (.t 17) (.t 16),[]⟩])
 (.seq (.rg [zc 18 6 3,⟨none,none,.st 6 (.t 2) (.t 18),[]⟩])
 .ret))))⟩
theorem ck106:za Tryz.prog 106 ir106=true:=by kernel_rfl
def ir107:zf:=⟨42,2,[.t 4],.seq (.rg [zp 2 0,zh 4 false])
 (.seq (.seq (.rg [Im 5 1])
 (.block 0 (.seq (.rg [zN 7 5 1,Im 6 7])
 (.cond (.t 6) (.seq (.rg [zc 8 3 2,Io 9 (.call 164 [(.t 8)]),Im 4 9])
 .ret) (.seq (.rg [zN 11 5 2,Im 10 11])
 (.cond (.t 10) (.seq (.rg [zc 12 3 2,Io 13 (.call 165 [(.t 12)]),Im 4 13])
 .ret) (.seq (.rg [zN 15 5 3,Im 14 15])
 (.cond (.t 14) (.seq (.rg [zc 16 3 2,Io 17 (.call 166 [(.t 16)]),Im 4 17])
 .ret) (.seq (.rg [zN 19 5 4,Im 18 19])
 (.cond (.t 18) (.seq (.rg [zc 20 3 2,Io 21 (.call 167 [(.t 20)]),Im 4 21])
 .ret) (.seq (.rg [zN 23 5 5,Im 22 23])
 (.cond (.t 22) (.seq (.rg [zc 24 3 2,Io 25 (.call 168 [(.t 24)]),Im 4 25])
 .ret) (.seq (.rg [zN 27 5 6,Im 26 27])
 (.cond (.t 26) (.seq (.rg [zc 28 3 2,Io 29 (.call 169 [(.t 28)]),Im 4 29])
 .ret) (.seq (.rg [zN 31 5 7,Im 30 31])
 (.cond (.t 30) (.seq (.rg [zc 32 3 2,Io 33 (.call 170 [(.t 32)]),Im 4 33])
 .ret) (.seq (.rg [zN 35 5 8,Im 34 35])
 (.cond (.t 34) (.seq (.rg [zc 36 3 2,Io 37 (.call 171 [(.t 36)]),Im 4 37])
 .ret) (.seq (.rg [zN 39 5 9,Im 38 39])
 (.cond (.t 38) (.seq (.rg [zc 40 3 2,Io 41 (.call 172 [(.t 40)]),Im 4 41])
 .ret) .skip))))))))))))))))))))
 (.seq (.rg [zh 4 false])
 .ret))⟩
theorem ck107:za Tryz.prog 107 ir107=true:=by kernel_rfl
def ir108:zf:=⟨19,2,[.t 4],.seq (.rg [zj 4 0])
 (.seq (.seq (.rg [Im 6 0,zD 7 6,zj 8 0])
 (.block 0 (.loop [0,1,7,8] (.seq (.rg [zK 9 8 7])
 (.seq (.cond (.t 9) .skip (.exit 0))
 (.seq (.block 1 (.seq (.rg [Im 10 8,Im 5 10])
 (.seq (.rg [Im 11 1,Im 12 0,Im 13 5,zF 14 6 12 13,zc 15 6 14,Io 16 (.callv (.t 11) [(.t 15)])])
 (.cond (.t 16) (.seq (.rg [Im 17 5,Im 4 17])
 .ret) .skip))))
 (.rg [zC 18 8 1,Im 8 18])))))))
 (.seq (.rg [Io 4 (.mv (.k (.int .i64 (-1))))])
 .ret))⟩
theorem ck108:za Tryz.prog 108 ir108=true:=by kernel_rfl
def ir109:zf:=⟨19,2,[.t 4],.seq (.rg [zj 4 0])
 (.seq (.seq (.rg [Im 6 0,zD 7 6,zj 8 0])
 (.block 0 (.loop [0,1,7,8] (.seq (.rg [zK 9 8 7])
 (.seq (.cond (.t 9) .skip (.exit 0))
 (.seq (.block 1 (.seq (.rg [Im 10 8,Im 5 10])
 (.seq (.rg [Im 11 1,Im 12 0,Im 13 5,zF 14 6 12 13,zc 15 6 14,Io 16 (.callv (.t 11) [(.t 15)])])
 (.cond (.t 16) (.seq (.rg [Im 17 5,Im 4 17])
 .ret) .skip))))
 (.rg [zC 18 8 1,Im 8 18])))))))
 (.seq (.rg [Io 4 (.mv (.k (.int .i64 (-1))))])
 .ret))⟩
theorem ck109:za Tryz.prog 109 ir109=true:=by kernel_rfl
def ir118:zf:=⟨10,2,[.t 4],.seq (.rg [zh 4 false])
 (.seq (.rg [Im 5 0,Io 6 (.call 155 [(.t 5)]),Im 7 1,Io 8 (.bld [.int .i64 0,.str []] [(0,1,(.k (.int .i64 1))),(1,1,(.t 7))]),Io 9 (.eqa false [(.i .i64),.s] (.t 6) (.t 8)),Im 4 9])
 .ret)⟩
theorem ck118:za Tryz.prog 118 ir118=true:=by kernel_rfl
def ir119:zf:=⟨21,1,[.t 2],.seq (.rg [Io 2 (.mv (.k (.sl .nil 7 [])))])
 (.seq (.seq (.rg [Im 4 0,Io 5 (.call 191 [(.t 4),(.k (.str [123]))]),zW 6 5])
 (.cond (.t 6) (.rg [Im 7 0,Io 8 (.call 99 [(.t 7),(.k (.int .i64 2))])]) .skip))
 (.seq (.rg [Im 9 0,Io 10 (.call 192 [(.t 9)]),Io 11 (.bls 7 1 [.int .i64 0,.str [],.str [],.sl .nil 6 [],.sl .nil 2 [],.str [],.sl .nil 7 []] [(0,(.t 10))]),Im 3 11])
 (.seq (.block 0 (.loop [0,3] (.seq (.seq (.rg [Im 12 0,Io 13 (.call 193 [(.t 12),(.k (.str [125]))]),zW 14 13])
 (.cond (.t 14) .skip (.exit 0)))
 (.block 1 (.rg [Im 15 3,Im 16 0,Io 17 (.call 192 [(.t 16)]),Io 18 (.bls 7 1 [.int .i64 0,.str [],.str [],.sl .nil 6 [],.sl .nil 2 [],.str [],.sl .nil 7 []] [(0,(.t 17))]),z1 19 7 128 15 18,Im 3 19])))))
 (.seq (.rg [Im 20 3,Im 2 20])
 .ret))))⟩
theorem ck119:za Tryz.prog 119 ir119=true:=by kernel_rfl
def ir120:zf:=⟨41,2,[.c 4 5 true],.seq (.rg [Io 4 (.alloc [.int .i64 0,.str [],.sl .nil 10 [],.sl .nil 2 [],.sl .nil 7 []])])
 (.seq (.rg [Im 6 1,Io 7 (.bld [.int .i64 0,.str [],.sl .nil 10 [],.sl .nil 2 [],.sl .nil 7 []] [(0,1,(.t 6))]),Io 5 (.alloc [.int .i64 0,.str [],.sl .nil 10 [],.sl .nil 2 [],.sl .nil 7 []]),⟨none,none,.st 5 (.t 5) (.t 7),[]⟩])
 (.seq (.seq (.rg [Im 8 0,Io 9 (.call 155 [(.t 8)]),Io 10 (.fld 0 1 false (.t 9)),zN 11 10 2])
 (.cond (.t 11) (.rg [Im 12 0,Io 13 (.call 158 [(.t 12)]),If 14 1 5,⟨none,none,.st 1 (.t 14) (.t 13),[]⟩]) .skip))
 (.seq (.seq (.rg [Im 15 0,Io 16 (.call 161 [(.t 15),(.k (.str [40]))])])
 (.cond (.t 16) (.seq (.reg [0,1,2,3,4,5,6,7] [If 17 2 5,Il 18 1 17,Im 19 0,⟨some 20,none,.call 194 [(.t 19)],[1]⟩,Io 21 (.bls 10 1 [.str [],.str [],.int .i64 0,.int .i64 0,.bool false,.int .i64 0,.int .i64 0,.str [],.sl .nil 5 [],.sl .nil 6 []] [(0,(.t 20))]),z1 22 10 136 18 21,If 23 2 5,⟨none,none,.st 1 (.t 23) (.t 22),[]⟩])
 (.block 0 (.loop [0,4,5] (.seq (.seq (.rg [Im 24 0,Io 25 (.call 161 [(.t 24),(.k (.str [41]))]),zW 26 25])
 (.cond (.t 26) .skip (.exit 0)))
 (.block 1 (.reg [0,1,2,3,4,5,6,7] [If 27 2 5,Il 28 1 27,Im 29 0,⟨some 30,none,.call 194 [(.t 29)],[1]⟩,Io 31 (.bls 10 1 [.str [],.str [],.int .i64 0,.int .i64 0,.bool false,.int .i64 0,.int .i64 0,.str [],.sl .nil 5 [],.sl .nil 6 []] [(0,(.t 30))]),z1 32 10 136 28 31,If 33 2 5,⟨none,none,.st 1 (.t 33) (.t 32),[]⟩])))))) .skip))
 (.seq (.rg [Im 34 0,Io 35 (.call 195 [(.t 34),(.k (.bool true))]),If 36 3 5,⟨none,none,.st 1 (.t 36) (.t 35),[]⟩])
 (.seq (.rg [Im 37 0,Io 38 (.call 119 [(.t 37)]),If 39 4 5,⟨none,none,.st 1 (.t 39) (.t 38),[]⟩])
 (.seq (.rg [zc 40 5 5,⟨none,none,.st 5 (.t 4) (.t 40),[]⟩])
 .ret))))))⟩
theorem ck120:za Tryz.prog 120 ir120=true:=by kernel_rfl
def ir121:zf:=⟨22,1,[.c 2 4 true],.seq (.rg [Io 2 (.alloc [.str [],.str [],.sl .nil 2 [],.sl .nil 7 []])])
 (.seq (.rg [Im 4 0,Io 5 (.call 196 [(.t 4)]),Io 6 (.bld [.str [],.str [],.sl .nil 2 [],.sl .nil 7 []] [(0,1,(.t 5))]),Io 3 (.alloc [.str [],.str [],.sl .nil 2 [],.sl .nil 7 []]),⟨none,none,.st 4 (.t 3) (.t 6),[]⟩])
 (.seq (.seq (.rg [Im 7 0,Io 8 (.call 101 [(.t 7),(.k (.str [111,110]))]),zW 9 8])
 (.cond (.t 9) (.rg [Im 10 0,Io 11 (.call 99 [(.t 10),(.k (.int .i64 2))])]) .skip))
 (.seq (.rg [Im 12 0,Io 13 (.call 158 [(.t 12)]),If 14 1 3,⟨none,none,.st 1 (.t 14) (.t 13),[]⟩])
 (.seq (.rg [Im 15 0,Io 16 (.call 195 [(.t 15),(.k (.bool true))]),If 17 2 3,⟨none,none,.st 1 (.t 17) (.t 16),[]⟩])
 (.seq (.rg [Im 18 0,Io 19 (.call 119 [(.t 18)]),If 20 3 3,⟨none,none,.st 1 (.t 20) (.t 19),[]⟩])
 (.seq (.rg [zc 21 4 3,⟨none,none,.st 4 (.t 2) (.t 21),[]⟩])
 .ret))))))⟩
theorem ck121:za Tryz.prog 121 ir121=true:=by kernel_rfl
def ir122:zf:=⟨51,1,[.t 2,.t 3],.seq (.rg [zp 1 0,Io 2 (.mv (.k (.sl .nil 2 []))),zh 3 false])
 (.seq (.rg [Io 9 (.call 197 []),Im 4 9])
 (.seq (.rg [Im 10 4,If 11 0 1,Il 12 1 11,zD 13 12,If 14 1 1,Il 15 1 14,zD 16 15,XM 17 13 16,YV 18 17 0,Io 19 (.call 198 [(.t 10),(.t 18)])])
 (.seq (.seq (.rg [If 20 0 1,Il 21 1 20,zD 22 21,zj 23 0])
 (.block 0 (.loop [1,4,21,22,23] (.seq (.rg [zK 24 23 22])
 (.seq (.cond (.t 24) .skip (.exit 0))
 (.seq (.block 1 (.seq (.rg [zF 25 5 21 23,zc 26 5 25,Io 6 (.alloc [.int .i64 0,.str [],.sl .nil 10 [],.sl .nil 2 [],.sl .nil 7 []]),⟨none,none,.st 5 (.t 6) (.t 26),[]⟩])
 (.rg [Im 27 4,zc 28 5 6,Io 29 (.call 199 [(.t 27),(.t 28)])])))
 (.rg [zC 30 23 1,Im 23 30])))))))
 (.seq (.seq (.rg [If 31 1 1,Il 32 1 31,zD 33 32,zj 34 0])
 (.block 2 (.loop [4,32,33,34] (.seq (.rg [zK 35 34 33])
 (.seq (.cond (.t 35) .skip (.exit 2))
 (.seq (.block 3 (.seq (.rg [zF 36 4 32 34,zc 37 4 36,Io 8 (.alloc [.str [],.str [],.sl .nil 2 [],.sl .nil 7 []]),⟨none,none,.st 4 (.t 8) (.t 37),[]⟩])
 (.rg [Im 38 4,zc 39 4 8,Io 40 (.call 200 [(.t 38),(.t 39)])])))
 (.rg [zC 41 34 1,Im 34 41])))))))
 (.seq (.seq (.rg [Im 42 4,zk 43 42,If 44 1 43,Il 45 1 44,zW 46 45])
 (.cond (.t 46) (.seq (.rg [Io 2 (.mv (.k (.sl .nil 2 []))),zh 3 false])
 .ret) .skip))
 (.seq (.rg [Im 47 4,zk 48 47,If 49 0 48,Il 50 1 49,Im 2 50,zh 3 true])
 .ret))))))⟩
theorem ck122:za Tryz.prog 122 ir122=true:=by kernel_rfl
def ir132:zf:=⟨60,2,[.t 4],.seq (.rg [zp 2 0,zh 4 false])
 (.scope (.seq (.rg [zc 11 5 2,Io 5 (.alloc [.int .i64 0,.int .i64 0,.str [],.sl .nil 5 [],.sl .nil 6 []]),⟨none,none,.st 5 (.t 5) (.t 11),[]⟩])
 (.seq (.rg [zh 6 true])
 (.seq .skip
 (.seq (.seq (.rg [If 12 0 2,Il 13 1 12])
 (.block 0 (.seq (.rg [zN 17 13 6,Im 16 17])
 (.cond (.t 16) (.seq (.rg [If 18 3 5,⟨none,none,.st 1 (.t 18) (.k (.sl .nil 5 [])),[]⟩])
 (.seq (.rg [If 19 3 2,Il 20 1 19,zD 21 20,zj 22 0])
 (.block 1 (.loop [1,5,6,20,21,22] (.seq (.rg [zK 23 22 21])
 (.seq (.cond (.t 23) .skip (.exit 1))
 (.seq (.block 2 (.seq (.rg [zF 24 5 20 22,zc 25 5 24,Io 8 (.alloc [.int .i64 0,.int .i64 0,.str [],.sl .nil 5 [],.sl .nil 6 []]),⟨none,none,.st 5 (.t 8) (.t 25),[]⟩])
 (.seq (.rg [zc 26 5 8,Im 27 1,Io 28 (.call 132 [(.t 26),(.t 27)]),Im 6 28])
 (.seq (.rg [Im 29 6,zW 30 29])
 (.cond (.t 30) (.exit 0) .skip)))))
 (.rg [zC 31 22 1,Im 22 31])))))))) (.seq (.rg [zN 33 13 7,Im 32 33])
 (.cond (.t 32) (.seq (.rg [If 34 4 5,⟨none,none,.st 1 (.t 34) (.k (.sl .nil 6 [])),[]⟩])
 (.seq (.rg [If 35 4 2,Il 36 1 35,zD 37 36,zj 38 0])
 (.block 3 (.loop [1,5,6,36,37,38] (.seq (.rg [zK 39 38 37])
 (.seq (.cond (.t 39) .skip (.exit 3))
 (.seq (.block 4 (.seq (.rg [zF 40 6 36 38,zc 41 6 40,Io 10 (.alloc [.str [],.int .i64 0,.int .i64 0,.str [],.sl .nil 5 [],.sl .nil 6 []]),⟨none,none,.st 6 (.t 10) (.t 41),[]⟩])
 (.seq (.rg [Im 42 1,If 43 0 10,Il 44 1 43,Io 45 (.callv (.t 42) [(.t 44)]),Im 46 45,Ja 47 46 1 10,Jt 48 46 (.ld 5 true (.t 47)),Jm 49 46 1,Jt 50 46 (.call 132 [(.t 48),(.t 49)]),zI 51 46 50,Im 6 51])
 (.seq (.rg [Im 52 6,zW 53 52])
 (.cond (.t 53) (.exit 0) .skip)))))
 (.rg [zC 54 38 1,Im 38 54])))))))) (.seq (.rg [zc 14 5 2,Io 15 (.call 237 [(.t 14)]),Im 4 15])
 .ret)))))))
 (.seq (.rg [Im 55 6,Im 56 55,Jt 57 56 (.ld 5 true (.t 5)),Jt 58 56 (.call 238 [(.t 57)]),zI 59 56 58,Im 4 59])
 .ret))))))⟩
theorem ck132:za Tryz.prog 132 ir132=true:=by kernel_rfl
def ir133:zf:=⟨10,2,[.t 4],.seq (.rg [Io 4 (.mv (.k (.sl .nil 1 [])))])
 (.seq (.seq (.rg [Im 5 1])
 (.cond (.t 5) (.seq (.rg [Im 6 0,Io 7 (.apps (.t 6) (.k (.str [116,114,117,101]))),Im 4 7])
 .ret) .skip))
 (.seq (.rg [Im 8 0,Io 9 (.apps (.t 8) (.k (.str [102,97,108,115,101]))),Im 4 9])
 .ret))⟩
theorem ck133:za Tryz.prog 133 ir133=true:=by kernel_rfl
def ir134:zf:=⟨21,3,[.t 6],.seq (.rg [Io 6 (.mv (.k (.sl .nil 1 [])))])
 (.seq (.rg [Im 8 1,Io 9 (.cvi .u64 (.t 8)),Im 7 9])
 (.seq (.seq (.rg [Im 10 1,Io 11 (.bi .lss .i64 (.t 10) (.k (.int .i64 0)))])
 (.cond (.t 11) (.seq (.rg [Im 12 0,Io 13 (.bls 1 1 [.int .u8 0] [(0,(.k (.int .u8 45)))]),z1 14 1 1 12 13,Im 0 14])
 (.rg [Im 15 7,Io 16 (.ineg (.t 15)),Im 7 16])) .skip))
 (.seq (.rg [Im 17 0,Im 18 7,Im 19 2,Io 20 (.call 239 [(.t 17),(.t 18),(.t 19)]),Im 6 20])
 .ret)))⟩
theorem ck134:za Tryz.prog 134 ir134=true:=by kernel_rfl
def ir146:zf:=⟨9,2,[.t 4],.seq (.rg [zh 4 false])
 (.seq (.rg [Im 5 0,Im 6 1,Io 7 (.call 260 [(.t 5),(.t 6)]),Io 8 (.bi .geq .i64 (.t 7) (.k (.int .i64 0))),Im 4 8])
 .ret)⟩
theorem ck146:za Tryz.prog 146 ir146=true:=by kernel_rfl
def ir148:zf:=⟨9,2,[.t 4],.seq (.rg [zh 4 false])
 (.seq (.rg [Im 5 0,Im 6 1,Io 7 (.call 261 [(.t 5),(.t 6)]),Io 8 (.bi .geq .i64 (.t 7) (.k (.int .i64 0))),Im 4 8])
 .ret)⟩
theorem ck148:za Tryz.prog 148 ir148=true:=by kernel_rfl
def ir151:zf:=⟨5,1,[.c 2 5 true],.seq (.rg [Io 2 (.alloc [.int .i64 0,.int .i64 0,.str [],.sl .nil 5 [],.sl .nil 6 []])])
 (.seq (.rg [Im 3 0,Io 4 (.bld [.int .i64 0,.int .i64 0,.str [],.sl .nil 5 [],.sl .nil 6 []] [(0,1,(.k (.int .i64 2))),(1,1,(.t 3))]),⟨none,none,.st 5 (.t 2) (.t 4),[]⟩])
 .ret)⟩
theorem ck151:za Tryz.prog 151 ir151=true:=by kernel_rfl
def ir152:zf:=⟨25,1,[.t 2],.seq (.rg [zh 2 false])
 (.scope (.seq .skip
 (.seq (.seq (.rg [zj 3 0])
 (.block 0 (.loop [0,3] (.seq (.seq (.rg [Im 6 3,Im 7 0,WW 8 7,zK 9 6 8])
 (.cond (.t 9) .skip (.exit 0)))
 (.block 1 (.seq (.seq (.rg [Im 11 0,Im 12 3,Io 13 (.call 265 [(.t 11),(.t 12)]),Im 10 13,zr 14 10 0,zr 15 10 1,Im 4 14,Im 5 15])
 (.seq (.rg [Im 16 5,YV 17 16 0,Im 18 17,Jm 19 18 4,Jt 20 18 (.call 266 [(.t 19)]),zI 21 18 20])
 (.cond (.t 21) (.seq (.rg [Im 22 3,Im 23 5,XM 24 22 23,Im 3 24])
 (.exit 1)) .skip)))
 (.seq (.rg [zh 2 false])
 .ret)))))))
 (.seq (.rg [zh 2 true])
 .ret))))⟩
theorem ck152:za Tryz.prog 152 ir152=true:=by kernel_rfl
def ir153:zf:=⟨39,1,[.t 2],.seq (.rg [zj 2 0])
 (.seq (.seq (.rg [Im 5 0,Io 6 (.ixs (.t 5) (.k (.int .i64 0))),Im 3 6])
 (.block 0 (.seq (.rg [Im 8 3,Io 9 (.bi .eql .u8 (.t 8) (.k (.int .u8 9))),Im 10 9,Fm 11 10 3,Jf 12 10 (.bi .eql .u8 (.t 11) (.k (.int .u8 10))),ye 13 10 12,Im 14 13,Fm 15 14 3,Jf 16 14 (.bi .eql .u8 (.t 15) (.k (.int .u8 13))),ye 17 14 16,Im 18 17,Fm 19 18 3,Jf 20 18 (.bi .eql .u8 (.t 19) (.k (.int .u8 32))),ye 21 18 20,Im 22 21,Fm 23 22 3,Jf 24 22 (.bi .eql .u8 (.t 23) (.k (.int .u8 44))),ye 25 22 24,Im 7 25])
 (.cond (.t 7) (.seq (.rg [zj 2 1])
 .ret) (.seq (.rg [Im 27 0,Io 28 (.call 267 [(.t 27),(.k (.str [239,187,191]))]),Im 26 28])
 (.cond (.t 26) (.seq (.rg [zj 2 3])
 .ret) (.seq (.rg [Im 30 3,Io 31 (.bi .eql .u8 (.t 30) (.k (.int .u8 35))),Im 29 31])
 (.cond (.t 29) (.seq (.seq (.rg [Im 32 0,Io 33 (.call 268 [(.t 32),(.k (.str [13,10]))]),Im 4 33])
 (.seq (.rg [Im 34 4,Io 35 (.bi .geq .i64 (.t 34) (.k (.int .i64 0)))])
 (.cond (.t 35) (.seq (.rg [Im 36 4,Im 2 36])
 .ret) .skip)))
 (.seq (.rg [Im 37 0,WW 38 37,Im 2 38])
 .ret)) .skip))))))))
 (.seq (.rg [zj 2 0])
 .ret))⟩
theorem ck153:za Tryz.prog 153 ir153=true:=by kernel_rfl
def ir154:zf:=⟨91,1,[.c 2 2 true,.t 3],.seq (.rg [Io 2 (.alloc [.int .i64 0,.str []]),zj 3 0])
 (.seq (.rg [Im 12 0,Io 13 (.ixs (.t 12) (.k (.int .i64 0))),Im 4 13])
 (.seq (.block 0 (.seq (.rg [Im 15 0,Io 16 (.call 267 [(.t 15),(.k (.str [34,34,34]))]),Im 14 16])
 (.cond (.t 14) (.seq (.rg [Im 18 0,Io 19 (.call 269 [(.t 18)]),Im 17 19,zr 20 17 0,zr 21 17 1,Im 5 20,Im 6 21])
 (.seq (.rg [Im 22 5,Io 23 (.bld [.int .i64 0,.str []] [(0,1,(.k (.int .i64 5))),(1,1,(.t 22))]),Im 24 6,⟨none,none,.st 2 (.t 2) (.t 23),[]⟩,Im 3 24])
 .ret)) (.seq (.rg [Im 26 4,Io 27 (.bi .eql .u8 (.t 26) (.k (.int .u8 34))),Im 25 27])
 (.cond (.t 25) (.seq (.rg [Im 29 0,Io 30 (.call 270 [(.t 29),(.k (.clo 271 [] []))]),Im 28 30,zr 31 28 0,zr 32 28 1,Im 7 31,Im 8 32])
 (.seq (.rg [Im 33 7,Io 34 (.bld [.int .i64 0,.str []] [(0,1,(.k (.int .i64 5))),(1,1,(.t 33))]),Im 35 8,⟨none,none,.st 2 (.t 2) (.t 34),[]⟩,Im 3 35])
 .ret)) (.seq (.rg [Im 37 0,Io 38 (.call 267 [(.t 37),(.k (.str [46,46,46]))]),Im 36 38])
 (.cond (.t 36) (.seq (.rg [Io 39 (.bld [.int .i64 0,.str []] [(0,1,(.k (.int .i64 1))),(1,1,(.k (.str [46,46,46])))]),⟨none,none,.st 2 (.t 2) (.t 39),[]⟩,zj 3 3])
 .ret) (.seq (.rg [Im 41 4,Io 42 (.call 190 [(.k (.str [33,36,38,40,41,58,61,64,91,93,123,124,125])),(.t 41)]),Io 43 (.bi .geq .i64 (.t 42) (.k (.int .i64 0))),Im 40 43])
 (.cond (.t 40) (.seq (.rg [Im 44 0,Io 45 (.sls (.t 44) none (some (.k (.int .i64 1)))),Io 46 (.bld [.int .i64 0,.str []] [(0,1,(.k (.int .i64 1))),(1,1,(.t 45))]),⟨none,none,.st 2 (.t 2) (.t 46),[]⟩,zj 3 1])
 .ret) (.seq (.rg [Im 48 4,Io 49 (.call 272 [(.t 48)]),Im 47 49])
 (.cond (.t 47) (.seq (.rg [Im 50 0,Io 51 (.call 273 [(.t 50)]),Im 9 51])
 (.seq (.rg [Im 52 0,Im 53 9,Io 54 (.sls (.t 52) none (some (.t 53))),Io 55 (.bld [.int .i64 0,.str []] [(0,1,(.k (.int .i64 2))),(1,1,(.t 54))]),Im 56 9,⟨none,none,.st 2 (.t 2) (.t 55),[]⟩,Im 3 56])
 .ret)) .skip)))))))))))
 (.seq (.rg [Im 58 0,Io 59 (.call 274 [(.t 58)]),Im 57 59,zr 60 57 0,zr 61 57 1,Im 10 60,Im 11 61])
 (.seq (.seq (.rg [Im 62 10,Im 63 0,WW 64 63,zK 65 62 64,Im 66 65,Jm 67 66 0,Jm 68 66 10,Jt 69 66 (.ixs (.t 67) (.t 68)),Jt 70 66 (.call 272 [(.t 69)]),Jm 71 66 70,Fm 72 71 0,Fm 73 71 10,Jf 74 71 (.ixs (.t 72) (.t 73)),Jf 75 71 (.call 275 [(.t 74)]),Jt 76 66 (.pick (.t 71) (.k (.bool true)) (.t 75)),Jm 77 66 76,Fm 78 77 0,Fm 79 77 10,Jf 80 77 (.ixs (.t 78) (.t 79)),Jf 81 77 (.bi .eql .u8 (.t 80) (.k (.int .u8 46))),Jt 82 66 (.pick (.t 77) (.k (.bool true)) (.t 81)),zI 83 66 82])
 (.cond (.t 83) (.seq (.rg [Io 84 (.bld [.int .i64 0,.str []] []),⟨none,none,.st 2 (.t 2) (.t 84),[]⟩,zj 3 0])
 .ret) .skip))
 (.seq (.rg [Im 85 11,Im 86 0,Im 87 10,Io 88 (.sls (.t 86) none (some (.t 87))),Io 89 (.bld [.int .i64 0,.str []] [(0,1,(.t 85)),(1,1,(.t 88))]),Im 90 10,⟨none,none,.st 2 (.t 2) (.t 89),[]⟩,Im 3 90])
 .ret)))))⟩
theorem ck154:za Tryz.prog 154 ir154=true:=by kernel_rfl
def ir155:zf:=⟨17,1,[.c 2 2 true],.seq (.rg [Io 2 (.alloc [.int .i64 0,.str []])])
 (.seq (.seq (.rg [Im 3 0,Io 4 (.call 49 [(.t 3)]),zW 5 4])
 (.cond (.t 5) (.seq (.rg [Io 6 (.bld [.int .i64 0,.str []] []),⟨none,none,.st 2 (.t 2) (.t 6),[]⟩])
 .ret) .skip))
 (.seq (.reg [0,1,2,3,4,5,6,7,8,9,10] [Im 7 0,zk 8 7,If 9 0 8,Il 10 1 9,Im 11 0,zk 12 11,If 13 1 12,Il 14 1 13,zF 15 2 10 14,zc 16 2 15,⟨none,none,.st 2 (.t 2) (.t 16),[]⟩])
 .ret))⟩
theorem ck155:za Tryz.prog 155 ir155=true:=by kernel_rfl
def ir156:zf:=⟨10,2,[.t 4],.seq (.rg [zh 4 false])
 (.seq (.rg [Im 5 0,Io 6 (.call 155 [(.t 5)]),Im 7 1,Io 8 (.bld [.int .i64 0,.str []] [(0,1,(.k (.int .i64 2))),(1,1,(.t 7))]),Io 9 (.eqa false [(.i .i64),.s] (.t 6) (.t 8)),Im 4 9])
 .ret)⟩
theorem ck156:za Tryz.prog 156 ir156=true:=by kernel_rfl
def ir157:zf:=⟨10,2,[],.seq (.rg [Im 4 0,Im 5 1,Io 6 (.call 161 [(.t 4),(.t 5)]),zW 7 6])
 (.cond (.t 7) (.rg [Im 8 0,Io 9 (.call 99 [(.t 8),(.k (.int .i64 2))])]) .skip)⟩
theorem ck157:za Tryz.prog 157 ir157=true:=by kernel_rfl
def ir158:zf:=⟨20,1,[.t 2],.seq (.rg [Io 2 (.mv (.k (.str [])))])
 (.seq (.rg [Im 4 0,Io 5 (.call 155 [(.t 4)]),Io 3 (.alloc [.int .i64 0,.str []]),⟨none,none,.st 2 (.t 3) (.t 5),[]⟩])
 (.seq (.seq (.rg [If 6 0 3,Il 7 1 6,Io 8 (.bi .neq .i64 (.t 7) (.k (.int .i64 2)))])
 (.cond (.t 8) (.rg [Im 9 0,Io 10 (.call 99 [(.t 9),(.k (.int .i64 2))])]) .skip))
 (.seq (.rg [Im 11 0,zk 12 11,If 13 1 12,Il 14 1 13,zC 15 14 1,zk 16 11,If 17 1 16,⟨none,none,.st 1 (.t 17) (.t 15),[]⟩])
 (.seq (.rg [If 18 1 3,Il 19 1 18,Im 2 19])
 .ret))))⟩
theorem ck158:za Tryz.prog 158 ir158=true:=by kernel_rfl
def ir159:zf:=⟨33,2,[.t 4],.seq (.rg [Io 4 (.mv (.k (.sl .nil 1 [])))])
 (.seq (.rg [Im 6 0,zk 7 6,If 8 0 7,Il 9 1 8,Im 10 1,Io 11 (.call 161 [(.t 9),(.t 10)])])
 (.seq (.rg [Im 12 0,zk 13 12,If 14 0 13,Il 15 1 14,Io 16 (.call 158 [(.t 15)]),Io 17 (.bls 1 1 [.str []] [(0,(.t 16))]),Im 5 17])
 (.seq (.block 0 (.loop [0,1,5] (.seq (.seq (.rg [Im 18 0,zk 19 18,If 20 0 19,Il 21 1 20,Im 22 1,Io 23 (.call 161 [(.t 21),(.t 22)])])
 (.cond (.t 23) .skip (.exit 0)))
 (.block 1 (.rg [Im 24 5,Im 25 0,zk 26 25,If 27 0 26,Il 28 1 27,Io 29 (.call 158 [(.t 28)]),Io 30 (.bls 1 1 [.str []] [(0,(.t 29))]),z1 31 1 16 24 30,Im 5 31])))))
 (.seq (.rg [Im 32 5,Im 4 32])
 .ret))))⟩
theorem ck159:za Tryz.prog 159 ir159=true:=by kernel_rfl
def ir160:zf:=⟨41,1,[.c 2 6 true],.seq (.rg [Io 2 (.alloc [.str [],.sl .nil 10 [],.str [],.int .i64 0,.int .i64 0,.sl .nil 2 []])])
 (.seq (.rg [Im 4 0,zk 5 4,If 6 0 5,Il 7 1 6,Io 8 (.call 100 [(.t 7)])])
 (.seq (.rg [Im 9 0,zk 10 9,If 11 0 10,Il 12 1 11,Io 13 (.call 158 [(.t 12)]),Io 14 (.bld [.str [],.sl .nil 10 [],.str [],.int .i64 0,.int .i64 0,.sl .nil 2 []] [(0,1,(.t 13))]),Io 3 (.alloc [.str [],.sl .nil 10 [],.str [],.int .i64 0,.int .i64 0,.sl .nil 2 []]),⟨none,none,.st 6 (.t 3) (.t 14),[]⟩])
 (.seq (.seq (.rg [Im 15 0,zk 16 15,If 17 0 16,Il 18 1 17,Io 19 (.call 161 [(.t 18),(.k (.str [40]))])])
 (.cond (.t 19) (.rg [Im 20 0,Io 21 (.call 163 [(.t 20),(.k (.str [41]))]),If 22 1 3,⟨none,none,.st 1 (.t 22) (.t 21),[]⟩]) .skip))
 (.seq (.rg [Im 23 0,zk 24 23,If 25 0 24,Il 26 1 25,Io 27 (.call 157 [(.t 26),(.k (.str [58]))])])
 (.seq (.rg [Im 28 0,zk 29 28,If 30 0 29,Il 31 1 30,Io 32 (.call 276 [(.t 31)]),If 33 2 3,⟨none,none,.st 3 (.t 33) (.t 32),[]⟩])
 (.seq (.rg [Im 34 0,zk 35 34,If 36 0 35,Il 37 1 36,Io 38 (.call 195 [(.t 37),(.k (.bool true))]),If 39 5 3,⟨none,none,.st 1 (.t 39) (.t 38),[]⟩])
 (.seq (.rg [zc 40 6 3,⟨none,none,.st 6 (.t 2) (.t 40),[]⟩])
 .ret)))))))⟩
theorem ck160:za Tryz.prog 160 ir160=true:=by kernel_rfl
def ir161:zf:=⟨18,2,[.t 4],.seq (.rg [zh 4 false])
 (.seq (.rg [Im 6 0,Im 7 1,Io 8 (.call 118 [(.t 6),(.t 7)]),Im 5 8])
 (.seq (.seq (.rg [Im 9 5])
 (.cond (.t 9) (.rg [Im 10 0,zk 11 10,If 12 1 11,Il 13 1 12,zC 14 13 1,zk 15 10,If 16 1 15,⟨none,none,.st 1 (.t 16) (.t 14),[]⟩]) .skip))
 (.seq (.rg [Im 17 5,Im 4 17])
 .ret)))⟩
theorem ck161:za Tryz.prog 161 ir161=true:=by kernel_rfl
def ir162:zf:=⟨37,1,[.t 2],.seq (.rg [Io 2 (.mv (.k (.str [])))])
 (.seq (.rg [Im 3 0,zk 4 3,If 5 0 4,Il 6 1 5,Io 7 (.call 100 [(.t 6)])])
 (.seq (.seq (.rg [Im 8 0,zk 9 8,If 10 0 9,Il 11 1 10,Io 12 (.call 156 [(.t 11),(.k (.str [116,114,117,101]))]),Im 13 12,Fm 14 13 0,Jf 15 13 (.nilchk (.t 14)),Fa 16 13 0 15,Fl 17 13 1 16,Jf 18 13 (.call 156 [(.t 17),(.k (.str [102,97,108,115,101]))]),ye 19 13 18,Im 20 19,Fm 21 20 0,Jf 22 20 (.nilchk (.t 21)),Fa 23 20 0 22,Fl 24 20 1 23,Jf 25 20 (.call 156 [(.t 24),(.k (.str [110,117,108,108]))]),ye 26 20 25])
 (.cond (.t 26) (.rg [Im 27 0,zk 28 27,If 29 0 28,Il 30 1 29,Io 31 (.call 99 [(.t 30),(.k (.int .i64 2))])]) .skip))
 (.seq (.rg [Im 32 0,zk 33 32,If 34 0 33,Il 35 1 34,Io 36 (.call 158 [(.t 35)]),Im 2 36])
 .ret)))⟩
theorem ck162:za Tryz.prog 162 ir162=true:=by kernel_rfl
def ir163:zf:=⟨22,2,[.t 4],.seq (.rg [Io 4 (.mv (.k (.sl .nil 10 [])))])
 (.seq (.rg [Im 6 0,Io 7 (.call 277 [(.t 6)]),Io 8 (.bls 10 1 [.str [],.str [],.int .i64 0,.int .i64 0,.bool false,.int .i64 0,.int .i64 0,.str [],.sl .nil 5 [],.sl .nil 6 []] [(0,(.t 7))]),Im 5 8])
 (.seq (.block 0 (.loop [0,1,5] (.seq (.seq (.rg [Im 9 0,zk 10 9,If 11 0 10,Il 12 1 11,Im 13 1,Io 14 (.call 161 [(.t 12),(.t 13)]),zW 15 14])
 (.cond (.t 15) .skip (.exit 0)))
 (.block 1 (.rg [Im 16 5,Im 17 0,Io 18 (.call 277 [(.t 17)]),Io 19 (.bls 10 1 [.str [],.str [],.int .i64 0,.int .i64 0,.bool false,.int .i64 0,.int .i64 0,.str [],.sl .nil 5 [],.sl .nil 6 []] [(0,(.t 18))]),z1 20 10 136 16 19,Im 5 20])))))
 (.seq (.rg [Im 21 5,Im 4 21])
 .ret)))⟩
theorem ck163:za Tryz.prog 163 ir163=true:=by kernel_rfl
def ir164:zf:=⟨23,1,[.t 2],.seq (.rg [zp 1 0,zh 2 false])
 (.seq (.rg [If 4 0 1,Il 5 1 4,Io 6 (.call 278 [(.t 5),(.k (.clo 279 [] []))]),Im 3 6])
 (.seq (.rg [zc 7 3 1,Io 8 (.call 280 [(.t 7)]),Im 9 8,Jm 10 9 3,Jt 11 9 (.call 281 [(.t 10)]),zI 12 9 11,Im 13 12,Jm 14 13 3,Jt 15 13 (.call 282 [(.t 14)]),zI 16 13 15,Im 17 16,Jm 18 17 3,Jt 19 17 (.mkfn 284 [] [(.t 1)]),Jt 20 17 (.call 283 [(.t 18),(.t 19)]),Jt 21 17 (.not (.t 20)),zI 22 17 21,Im 2 22])
 .ret))⟩
theorem ck164:za Tryz.prog 164 ir164=true:=by kernel_rfl
def ir165:zf:=⟨27,1,[.t 2],.seq (.rg [zp 1 0,zh 2 false])
 (.seq (.rg [zc 3 3 1,If 4 1 1,Il 5 1 4,Io 6 (.bls 1 1 [.int .i64 0] [(0,(.k (.int .i64 1)))]),Io 7 (.call 285 [(.t 3),(.t 5),(.t 6)]),Im 8 7,Ja 9 8 2 1,Jl 10 8 1 9,Jt 11 8 (.bs .eql (.t 10) (.k (.str []))),Jm 12 8 11,Fa 13 12 2 1,Fl 14 12 1 13,Fa 15 12 1 1,Fl 16 12 1 15,Jf 17 12 (.bs .neq (.t 14) (.t 16)),Fm 18 12 17,Jt 19 18 (.ld 3 true (.t 1)),Ja 20 18 2 1,Jl 21 18 1 20,Jt 22 18 (.bls 1 1 [.int .i64 0] [(0,(.k (.int .i64 1)))]),Jt 23 18 (.call 285 [(.t 19),(.t 21),(.t 22)]),Jf 24 12 (.pick (.t 18) (.t 23) (.k (.bool false))),Jt 25 8 (.pick (.t 12) (.k (.bool true)) (.t 24)),zI 26 8 25,Im 2 26])
 .ret)⟩
theorem ck165:za Tryz.prog 165 ir165=true:=by kernel_rfl
def ir166:zf:=⟨7,1,[.t 2],.seq (.rg [zp 1 0,zh 2 false])
 (.seq (.rg [Io 3 (.alloc [.oth .nilFunc]),⟨none,none,.st 1 (.t 3) (.k (.clo 286 [] [])),[]⟩])
 (.seq (.rg [zc 4 3 1,Io 5 (.mkfn 288 [] [(.t 3)]),Io 6 (.call 287 [(.t 4),(.t 5)]),Im 2 6])
 .ret))⟩
theorem ck166:za Tryz.prog 166 ir166=true:=by kernel_rfl
def ir167:zf:=⟨6,1,[.t 2],.seq (.rg [Io 1 (.box (.t 0)),zh 2 false])
 (.seq (.rg [zc 3 3 1,Io 4 (.mkfn 294 [] [(.t 1)]),Io 5 (.call 287 [(.t 3),(.t 4)]),Im 2 5])
 .ret)⟩
theorem ck167:za Tryz.prog 167 ir167=true:=by kernel_rfl
def ir168:zf:=⟨6,1,[.t 2],.seq (.rg [Io 1 (.box (.t 0)),zh 2 false])
 (.seq (.rg [zc 3 3 1,Io 4 (.mkfn 297 [] [(.t 1)]),Io 5 (.call 287 [(.t 3),(.t 4)]),Im 2 5])
 .ret)⟩
theorem ck168:za Tryz.prog 168 ir168=true:=by kernel_rfl
def ir169:zf:=⟨6,1,[.t 2],.seq (.rg [Io 1 (.box (.t 0)),zh 2 false])
 (.seq (.rg [zc 3 3 1,Io 4 (.mkfn 301 [] [(.t 1)]),Io 5 (.call 287 [(.t 3),(.t 4)]),Im 2 5])
 .ret)⟩
theorem ck169:za Tryz.prog 169 ir169=true:=by kernel_rfl
def ir170:zf:=⟨6,1,[.t 2],.seq (.rg [Io 1 (.box (.t 0)),zh 2 false])
 (.seq (.rg [zc 3 3 1,Io 4 (.mkfn 304 [] [(.t 1)]),Io 5 (.call 287 [(.t 3),(.t 4)]),Im 2 5])
 .ret)⟩
theorem ck170:za Tryz.prog 170 ir170=true:=by kernel_rfl
def ir171:zf:=⟨6,1,[.t 2],.seq (.rg [zp 1 0,zh 2 false])
 (.seq (.rg [zc 3 3 1,Io 4 (.mkfn 306 [] [(.t 1)]),Io 5 (.call 287 [(.t 3),(.t 4)]),Im 2 5])
 .ret)⟩
theorem ck171:za Tryz.prog 171 ir171=true:=by kernel_rfl
def ir172:zf:=⟨6,1,[.t 2],.seq (.rg [Io 1 (.box (.t 0)),zh 2 false])
 (.seq (.rg [zc 3 3 1,Io 4 (.mkfn 308 [] [(.t 1)]),Io 5 (.call 287 [(.t 3),(.t 4)]),Im 2 5])
 .ret)⟩
theorem ck172:za Tryz.prog 172 ir172=true:=by kernel_rfl
def ir176:zf:=⟨9,2,[.t 4],.seq (.rg [zp 2 0,zh 4 false])
 (.seq (.rg [zc 5 3 2,Im 6 1,Io 7 (.bls 1 2 [.int .i64 0] [(0,(.k (.int .i64 0))),(1,(.k (.int .i64 4)))]),Io 8 (.call 285 [(.t 5),(.t 6),(.t 7)]),Im 4 8])
 .ret)⟩
theorem ck176:za Tryz.prog 176 ir176=true:=by kernel_rfl
def ir177:zf:=⟨9,2,[.t 4],.seq (.rg [zp 2 0,zh 4 false])
 (.seq (.rg [zc 5 3 2,Im 6 1,Io 7 (.bls 1 3 [.int .i64 0] [(0,(.k (.int .i64 1))),(1,(.k (.int .i64 2))),(2,(.k (.int .i64 3)))]),Io 8 (.call 285 [(.t 5),(.t 6),(.t 7)]),Im 4 8])
 .ret)⟩
theorem ck177:za Tryz.prog 177 ir177=true:=by kernel_rfl
def ir178:zf:=⟨67,2,[.t 4],.seq (.rg [zp 2 0,Io 4 (.mv (.k (.sl .nil 1 [])))])
 (.seq (.rg [zc 13 3 2,Im 14 1,Io 15 (.call 299 [(.t 13),(.t 14)]),Im 12 15,zr 16 12 0,zr 17 12 1,Io 5 (.alloc [.int .i64 0,.str [],.sl .nil 1 [],.sl .nil 6 [],.sl .nil 1 [],.sl .nil 10 []]),⟨none,none,.st 6 (.t 5) (.t 16),[]⟩,Im 6 17])
 (.seq (.seq (.rg [Im 18 6,zW 19 18])
 (.cond (.t 19) (.seq (.rg [Io 4 (.mv (.k (.sl .nil 1 [])))])
 .ret) .skip))
 (.seq (.rg [Io 7 (.mv (.k (.sl .nil 1 [])))])
 (.seq (.seq (.rg [If 20 0 5,Il 21 1 20])
 (.block 0 (.seq (.rg [zN 23 21 1,Im 22 23])
 (.cond (.t 22) (.seq (.rg [Im 24 1,Io 25 (.bls 1 1 [.str []] [(0,(.t 24))]),Im 4 25])
 .ret) (.seq (.rg [zN 27 21 2,Im 26 27])
 (.cond (.t 26) (.seq (.rg [If 28 0 2,Il 29 1 28,zD 30 29,zj 31 0])
 (.block 1 (.loop [1,7,29,30,31] (.seq (.rg [zK 32 31 30])
 (.seq (.cond (.t 32) .skip (.exit 1))
 (.seq (.block 2 (.seq (.rg [zF 33 6 29 31,zc 34 6 33,Io 9 (.alloc [.int .i64 0,.str [],.sl .nil 1 [],.sl .nil 6 [],.sl .nil 1 [],.sl .nil 10 []]),⟨none,none,.st 6 (.t 9) (.t 34),[]⟩])
 (.seq (.rg [If 35 0 9,Il 36 1 35,zN 37 36 1,Im 38 37,Ja 39 38 2 9,Jl 40 38 1 39,Jm 41 38 1,Jt 42 38 (.call 148 [(.t 40),(.t 41)]),zI 43 38 42])
 (.cond (.t 43) (.rg [Im 44 7,If 45 1 9,Il 46 1 45,Io 47 (.call 314 [(.t 44),(.t 46)]),Im 7 47]) .skip))))
 (.rg [zC 48 31 1,Im 31 48]))))))) (.seq (.rg [zN 50 21 3,Im 49 50])
 (.cond (.t 49) (.seq (.rg [If 51 4 5,Il 52 1 51,zD 53 52,zj 54 0])
 (.block 3 (.loop [2,7,52,53,54] (.seq (.rg [zK 55 54 53])
 (.seq (.cond (.t 55) .skip (.exit 3))
 (.seq (.block 4 (.seq (.rg [zF 56 1 52 54,Il 57 1 56,Im 11 57])
 (.seq (.rg [zc 58 3 2,Im 59 11,Io 60 (.bls 1 1 [.int .i64 0] [(0,(.k (.int .i64 1)))]),Io 61 (.call 285 [(.t 58),(.t 59),(.t 60)])])
 (.cond (.t 61) (.rg [Im 62 7,Im 63 11,Io 64 (.call 314 [(.t 62),(.t 63)]),Im 7 64]) .skip))))
 (.rg [zC 65 54 1,Im 54 65]))))))) .skip))))))))
 (.seq (.rg [Im 66 7,Im 4 66])
 .ret)))))⟩
theorem ck178:za Tryz.prog 178 ir178=true:=by kernel_rfl
def ir180:zf:=⟨9,2,[.t 4],.seq (.rg [zh 4 false])
 (.seq (.rg [Im 5 0,Im 6 1,Io 7 (.call 315 [(.t 5),(.t 6)]),Io 8 (.bi .geq .i64 (.t 7) (.k (.int .i64 0))),Im 4 8])
 .ret)⟩
theorem ck180:za Tryz.prog 180 ir180=true:=by kernel_rfl
def ir191:zf:=⟨28,2,[.t 4],.seq (.rg [zh 4 false])
 (.seq (.seq (.rg [Im 5 0,Im 6 1,Io 7 (.call 118 [(.t 5),(.t 6)]),Im 8 7,Jm 9 8 0,Jt 10 8 (.nilchk (.t 9)),Ja 11 8 2 10,Jl 12 8 1 11,Jt 13 8 (.bi .geq .i64 (.t 12) (.k (.int .i64 16))),zI 14 8 13])
 (.cond (.t 14) (.rg [Im 15 0,Io 16 (.call 99 [(.t 15),(.k (.int .i64 4))])]) .skip))
 (.seq (.seq (.rg [Im 17 0,Im 18 1,Io 19 (.call 161 [(.t 17),(.t 18)]),zW 20 19])
 (.cond (.t 20) (.seq (.rg [zh 4 false])
 .ret) .skip))
 (.seq (.rg [Im 21 0,zk 22 21,If 23 2 22,Il 24 1 23,zC 25 24 1,zk 26 21,If 27 2 26,⟨none,none,.st 1 (.t 27) (.t 25),[]⟩])
 (.seq (.rg [zh 4 true])
 .ret))))⟩
theorem ck191:za Tryz.prog 191 ir191=true:=by kernel_rfl
def ir192:zf:=⟨31,1,[.c 2 7 true],.seq (.rg [Io 2 (.alloc [.int .i64 0,.str [],.str [],.sl .nil 6 [],.sl .nil 2 [],.str [],.sl .nil 7 []])])
 (.seq (.seq (.rg [Im 4 0,Io 5 (.call 161 [(.t 4),(.k (.str [46,46,46]))])])
 (.cond (.t 5) (.seq (.rg [Im 6 0,Io 7 (.call 322 [(.t 6)]),⟨none,none,.st 7 (.t 2) (.t 7),[]⟩])
 .ret) .skip))
 (.seq (.rg [Im 8 0,Io 9 (.call 158 [(.t 8)]),Io 10 (.bld [.int .i64 0,.str [],.str [],.sl .nil 6 [],.sl .nil 2 [],.str [],.sl .nil 7 []] [(2,1,(.t 9))]),Io 3 (.alloc [.int .i64 0,.str [],.str [],.sl .nil 6 [],.sl .nil 2 [],.str [],.sl .nil 7 []]),⟨none,none,.st 7 (.t 3) (.t 10),[]⟩])
 (.seq (.seq (.rg [Im 11 0,Io 12 (.call 161 [(.t 11),(.k (.str [58]))])])
 (.cond (.t 12) (.reg [0,1,2,4,3,5,6,7] [If 13 2 3,Il 14 1 13,Im 15 0,If 17 1 3,⟨some 16,none,.call 158 [(.t 15)],[1]⟩,⟨none,none,.st 1 (.t 17) (.t 14),[]⟩,If 18 2 3,⟨none,none,.st 1 (.t 18) (.t 16),[]⟩]) .skip))
 (.seq (.rg [Im 19 0,Io 20 (.call 323 [(.t 19),(.k (.bool false))]),If 21 3 3,⟨none,none,.st 1 (.t 21) (.t 20),[]⟩])
 (.seq (.rg [Im 22 0,Io 23 (.call 195 [(.t 22),(.k (.bool false))]),If 24 4 3,⟨none,none,.st 1 (.t 24) (.t 23),[]⟩])
 (.seq (.seq (.rg [Im 25 0,Io 26 (.call 118 [(.t 25),(.k (.str [123]))])])
 (.cond (.t 26) (.rg [Im 27 0,Io 28 (.call 119 [(.t 27)]),If 29 6 3,⟨none,none,.st 1 (.t 29) (.t 28),[]⟩]) .skip))
 (.seq (.rg [zc 30 7 3,⟨none,none,.st 7 (.t 2) (.t 30),[]⟩])
 .ret)))))))⟩
theorem ck192:za Tryz.prog 192 ir192=true:=by kernel_rfl
def ir193:zf:=⟨16,2,[.t 4],.seq (.rg [zh 4 false])
 (.seq (.seq (.rg [Im 5 0,Im 6 1,Io 7 (.call 161 [(.t 5),(.t 6)]),zW 8 7])
 (.cond (.t 8) (.seq (.rg [zh 4 false])
 .ret) .skip))
 (.seq (.rg [Im 9 0,zk 10 9,If 11 2 10,Il 12 1 11,VA 13 12 1,zk 14 9,If 15 2 14,⟨none,none,.st 1 (.t 15) (.t 13),[]⟩])
 (.seq (.rg [zh 4 true])
 .ret)))⟩
theorem ck193:za Tryz.prog 193 ir193=true:=by kernel_rfl
def ir194:zf:=⟨21,1,[.c 2 10 true],.seq (.rg [Io 2 (.alloc [.str [],.str [],.int .i64 0,.int .i64 0,.bool false,.int .i64 0,.int .i64 0,.str [],.sl .nil 5 [],.sl .nil 6 []])])
 (.seq (.rg [Im 4 0,Io 5 (.call 157 [(.t 4),(.k (.str [36]))])])
 (.seq (.rg [Im 6 0,Io 7 (.call 158 [(.t 6)]),Io 8 (.bld [.str [],.str [],.int .i64 0,.int .i64 0,.bool false,.int .i64 0,.int .i64 0,.str [],.sl .nil 5 [],.sl .nil 6 []] [(0,1,(.t 7))]),Io 3 (.alloc [.str [],.str [],.int .i64 0,.int .i64 0,.bool false,.int .i64 0,.int .i64 0,.str [],.sl .nil 5 [],.sl .nil 6 []]),⟨none,none,.st 10 (.t 3) (.t 8),[]⟩])
 (.seq (.rg [Im 9 0,Io 10 (.call 157 [(.t 9),(.k (.str [58]))])])
 (.seq (.rg [Im 11 0,Io 12 (.call 276 [(.t 11)]),If 13 1 3,⟨none,none,.st 3 (.t 13) (.t 12),[]⟩])
 (.seq (.seq (.rg [Im 14 0,Io 15 (.call 161 [(.t 14),(.k (.str [61]))])])
 (.cond (.t 15) (.rg [Im 16 0,Io 17 (.call 324 [(.t 16),(.k (.bool true))]),If 18 4 3,⟨none,none,.st 1 (.t 18) (.k (.bool true)),[]⟩,If 19 5 3,⟨none,none,.st 5 (.t 19) (.t 17),[]⟩]) .skip))
 (.seq (.rg [zc 20 10 3,⟨none,none,.st 10 (.t 2) (.t 20),[]⟩])
 .ret))))))⟩
theorem ck194:za Tryz.prog 194 ir194=true:=by kernel_rfl
def ir195:zf:=⟨18,2,[.t 4],.seq (.rg [Io 4 (.mv (.k (.sl .nil 2 [])))])
 (.seq (.rg [Io 5 (.mv (.k (.sl .nil 2 [])))])
 (.seq (.block 0 (.loop [0,1,5] (.seq (.seq (.rg [Im 6 0,Io 7 (.call 161 [(.t 6),(.k (.str [64]))])])
 (.cond (.t 7) .skip (.exit 0)))
 (.block 1 (.rg [Im 8 5,Im 9 0,Io 10 (.call 158 [(.t 9)]),Im 11 0,Im 12 1,Io 13 (.call 323 [(.t 11),(.t 12)]),Io 14 (.bld [.str [],.sl .nil 6 []] [(0,1,(.t 10)),(1,1,(.t 13))]),Io 15 (.bls 2 1 [.str [],.sl .nil 6 []] [(0,(.t 14))]),z1 16 2 40 8 15,Im 5 16])))))
 (.seq (.rg [Im 17 5,Im 4 17])
 .ret)))⟩
theorem ck195:za Tryz.prog 195 ir195=true:=by kernel_rfl
def ir196:zf:=⟨9,1,[.t 2],.seq (.rg [Io 2 (.mv (.k (.str [])))])
 (.seq (.seq (.rg [Im 3 0,Io 4 (.call 156 [(.t 3),(.k (.str [111,110]))])])
 (.cond (.t 4) (.rg [Im 5 0,Io 6 (.call 99 [(.t 5),(.k (.int .i64 2))])]) .skip))
 (.seq (.rg [Im 7 0,Io 8 (.call 158 [(.t 7)]),Im 2 8])
 .ret))⟩
theorem ck196:za Tryz.prog 196 ir196=true:=by kernel_rfl
def ir197:zf:=⟨3,0,[.t 0],.seq (.rg [Io 0 (.mv (.k (.nilp)))])
 (.seq (.rg [Io 1 (.bld [.sl .nil 2 [],.bool false,.int .i64 0] [(1,1,(.k (.bool true)))]),Io 2 (.box (.t 1)),Im 0 2])
 .ret)⟩
theorem ck197:za Tryz.prog 197 ir197=true:=by kernel_rfl
def ir198:zf:=⟨14,2,[],.rg [Im 4 0,Im 5 0,zk 6 5,If 7 1 6,Il 8 1 7,Im 9 8,Jm 10 9 1,zI 11 9 10,zk 12 4,If 13 1 12,⟨none,none,.st 1 (.t 13) (.t 11),[]⟩]⟩
theorem ck198:za Tryz.prog 198 ir198=true:=by kernel_rfl
def ir199:zf:=⟨71,2,[],.seq (.rg [zp 3 1])
 (.seq (.seq (.rg [If 6 0 3,Il 7 1 6])
 (.block 0 (.seq (.rg [zN 11 7 0,Im 10 11])
 (.cond (.t 10) (.rg [Im 12 0,Io 13 (.call 325 [(.t 12),(.k (.str [113,117,101,114,121]))])]) (.seq (.rg [zN 15 7 1,Im 14 15])
 (.cond (.t 14) (.rg [Im 16 0,Io 17 (.call 325 [(.t 16),(.k (.str [109,117,116,97,116,105,111,110]))])]) (.rg [Im 8 0,Io 9 (.call 198 [(.t 8),(.k (.bool false))])])))))))
 (.seq (.seq (.rg [If 18 1 3,Il 19 1 18,Io 20 (.bs .neq (.t 19) (.k (.str [])))])
 (.cond (.t 20) (.rg [Im 21 0,If 22 1 3,Il 23 1 22,Io 24 (.call 325 [(.t 21),(.t 23)])]) .skip))
 (.seq (.seq (.rg [If 25 2 3,Il 26 1 25,zD 27 26,YV 28 27 0])
 (.cond (.t 28) (.seq (.rg [Im 29 0,Io 30 (.bls 1 1 [.str []] [(0,(.k (.str [40])))]),Io 31 (.call 326 [(.t 29),(.t 30)])])
 (.seq (.seq (.rg [If 32 2 3,Il 33 1 32,zD 34 33,zj 35 0])
 (.block 1 (.loop [0,3,33,34,35] (.seq (.rg [zK 36 35 34])
 (.seq (.cond (.t 36) .skip (.exit 1))
 (.seq (.block 2 (.seq (.rg [zF 37 10 33 35,zc 38 10 37,Io 5 (.alloc [.str [],.str [],.int .i64 0,.int .i64 0,.bool false,.int .i64 0,.int .i64 0,.str [],.sl .nil 5 [],.sl .nil 6 []]),⟨none,none,.st 10 (.t 5) (.t 38),[]⟩])
 (.seq (.rg [Im 39 0,Io 40 (.bls 1 1 [.str []] [(0,(.k (.str [36])))]),Io 41 (.call 326 [(.t 39),(.t 40)])])
 (.seq (.rg [Im 42 0,If 43 0 5,Il 44 1 43,Io 45 (.call 325 [(.t 42),(.t 44)])])
 (.seq (.rg [Im 46 0,Io 47 (.bls 1 1 [.str []] [(0,(.k (.str [58])))]),Io 48 (.call 326 [(.t 46),(.t 47)])])
 (.seq (.rg [Im 49 0,If 50 1 5,zc 51 3 50,Io 52 (.call 327 [(.t 49),(.t 51)])])
 (.rg [Im 53 0,If 54 4 5,Il 55 1 54,If 56 5 5,zc 57 5 56,Io 58 (.call 328 [(.t 53),(.t 55),(.t 57)])])))))))
 (.rg [zC 59 35 1,Im 35 59])))))))
 (.rg [Im 60 0,Io 61 (.bls 1 1 [.str []] [(0,(.k (.str [41])))]),Io 62 (.call 326 [(.t 60),(.t 61)])]))) .skip))
 (.seq (.rg [Im 63 0,If 64 3 3,Il 65 1 64,Io 66 (.call 329 [(.t 63),(.k (.bool true)),(.t 65)])])
 (.rg [Im 67 0,If 68 4 3,Il 69 1 68,Io 70 (.call 330 [(.t 67),(.t 69)])])))))⟩
theorem ck199:za Tryz.prog 199 ir199=true:=by kernel_rfl
def ir200:zf:=⟨29,2,[],.seq (.rg [zp 3 1])
 (.seq (.rg [Im 4 0,If 5 0 3,Il 6 1 5,Io 7 (.bs .neq (.t 6) (.k (.str [111,110]))),Io 8 (.call 198 [(.t 4),(.t 7)])])
 (.seq (.rg [Im 9 0,Io 10 (.call 325 [(.t 9),(.k (.str [102,114,97,103,109,101,110,116]))])])
 (.seq (.rg [Im 11 0,If 12 0 3,Il 13 1 12,Io 14 (.call 325 [(.t 11),(.t 13)])])
 (.seq (.rg [Im 15 0,Io 16 (.call 325 [(.t 15),(.k (.str [111,110]))])])
 (.seq (.rg [Im 17 0,If 18 1 3,Il 19 1 18,Io 20 (.call 325 [(.t 17),(.t 19)])])
 (.seq (.rg [Im 21 0,If 22 2 3,Il 23 1 22,Io 24 (.call 329 [(.t 21),(.k (.bool true)),(.t 23)])])
 (.rg [Im 25 0,If 26 3 3,Il 27 1 26,Io 28 (.call 330 [(.t 25),(.t 27)])])))))))⟩
theorem ck200:za Tryz.prog 200 ir200=true:=by kernel_rfl
def ir204:zf:=⟨9,2,[.t 4],.seq (.rg [zh 4 false])
 (.seq (.rg [Im 5 0,Im 6 1,Io 7 (.call 65 [(.t 5),(.t 6)]),Io 8 (.bi .geq .i64 (.t 7) (.k (.int .i64 0))),Im 4 8])
 .ret)⟩
theorem ck204:za Tryz.prog 204 ir204=true:=by kernel_rfl
def ir236:zf:=⟨9,1,[.t 2],.seq (.rg [zp 1 0,zh 2 false])
 (.seq (.rg [zc 3 3 1,Io 4 (.call 370 [(.t 3)]),Im 5 4,Jt 6 5 (.ld 3 true (.t 1)),Jt 7 5 (.call 372 [(.t 6),(.k (.int .i64 0))]),zI 8 5 7,Im 2 8])
 .ret)⟩
theorem ck236:za Tryz.prog 236 ir236=true:=by kernel_rfl
def ir237:zf:=⟨88,1,[.t 2],.seq (.rg [zp 1 0,zh 2 false])
 (.seq (.rg [zc 4 5 1,Io 3 (.alloc [.int .i64 0,.int .i64 0,.str [],.sl .nil 5 [],.sl .nil 6 []]),⟨none,none,.st 5 (.t 3) (.t 4),[]⟩])
 (.seq (.rg [If 5 1 3,⟨none,none,.st 1 (.t 5) (.k (.int .i64 0)),[]⟩,If 6 2 3,⟨none,none,.st 1 (.t 6) (.k (.str [])),[]⟩])
 (.seq (.seq (.rg [zc 7 5 3,Io 8 (.call 238 [(.t 7)]),zW 9 8])
 (.cond (.t 9) (.seq (.rg [zh 2 false])
 .ret) .skip))
 (.seq (.seq (.rg [If 10 0 1,Il 11 1 10])
 (.block 0 (.seq (.rg [zN 13 11 0,Im 12 13])
 (.cond (.t 12) (.seq (.rg [If 14 1 1,Il 15 1 14,zN 16 15 0,Im 17 16,Ja 18 17 2 1,Jl 19 17 1 18,Jt 20 17 (.bs .eql (.t 19) (.k (.str []))),zI 21 17 20,Im 2 21])
 .ret) (.seq (.rg [zN 23 11 1,Im 22 23])
 (.cond (.t 22) (.seq (.rg [If 24 1 1,Il 25 1 24,zN 26 25 0,Im 27 26,Fa 28 27 1 1,Fl 29 27 1 28,Jf 30 27 (.bi .eql .i64 (.t 29) (.k (.int .i64 1))),ye 31 27 30,Im 32 31,Ja 33 32 2 1,Jl 34 32 1 33,Jt 35 32 (.bs .eql (.t 34) (.k (.str []))),zI 36 32 35,Im 2 36])
 .ret) (.seq (.rg [zN 38 11 2,Im 37 38])
 (.cond (.t 37) (.seq (.rg [If 39 2 1,Il 40 1 39,Io 41 (.bs .eql (.t 40) (.k (.str []))),Im 2 41])
 .ret) (.seq (.rg [zN 43 11 3,Im 42 43])
 (.cond (.t 42) (.seq (.rg [If 44 1 1,Il 45 1 44,zN 46 45 0,Im 47 46,Ja 48 47 2 1,Jl 49 47 1 48,Jt 50 47 (.call 373 [(.t 49)]),zI 51 47 50,Im 2 51])
 .ret) (.seq (.rg [zN 53 11 4,Im 52 53])
 (.cond (.t 52) (.seq (.rg [If 54 1 1,Il 55 1 54,zN 56 55 0,Im 57 56,Ja 58 57 2 1,Jl 59 57 1 58,Jt 60 57 (.call 56 [(.t 59)]),zI 61 57 60,Im 2 61])
 .ret) (.seq (.rg [zN 63 11 5,Im 62 63])
 (.cond (.t 62) (.seq (.rg [If 64 1 1,Il 65 1 64,zN 66 65 0,Im 67 66,Ja 68 67 2 1,Jl 69 67 1 68,Jt 70 67 (.call 374 [(.t 69)]),zI 71 67 70,Im 72 71,Ja 73 72 2 1,Jl 74 72 1 73,Jt 75 72 (.call 375 [(.t 74)]),Jt 76 72 (.not (.t 75)),zI 77 72 76,Im 2 77])
 .ret) (.seq (.rg [zN 79 11 8,Im 78 79])
 (.cond (.t 78) (.seq (.rg [If 80 1 1,Il 81 1 80,zN 82 81 0,Im 83 82,Ja 84 83 2 1,Jl 85 83 1 84,Jt 86 83 (.call 374 [(.t 85)]),zI 87 83 86,Im 2 87])
 .ret) .skip))))))))))))))))
 (.seq (.rg [zh 2 false])
 .ret)))))⟩
theorem ck237:za Tryz.prog 237 ir237=true:=by kernel_rfl
def ir238:zf:=⟨23,1,[.t 2],.seq (.rg [zp 1 0,zh 2 false])
 (.seq (.rg [If 3 1 1,Il 4 1 3,zN 5 4 0,Im 6 5,Ja 7 6 2 1,Jl 8 6 1 7,Jt 9 6 (.bs .eql (.t 8) (.k (.str []))),zI 10 6 9,Im 11 10,Ja 12 11 3 1,Jl 13 11 1 12,Jt 14 11 (.len (.t 13)),Jt 15 11 (.bi .eql .i64 (.t 14) (.k (.int .i64 0))),zI 16 11 15,Im 17 16,Ja 18 17 4 1,Jl 19 17 1 18,Jt 20 17 (.len (.t 19)),Jt 21 17 (.bi .eql .i64 (.t 20) (.k (.int .i64 0))),zI 22 17 21,Im 2 22])
 .ret)⟩
theorem ck238:za Tryz.prog 238 ir238=true:=by kernel_rfl
def ir239:zf:=⟨36,3,[.t 6],.seq (.rg [Io 6 (.mv (.k (.sl .nil 1 [])))])
 (.seq (.seq (.rg [Im 9 2,zN 10 9 10])
 (.cond (.t 10) (.seq (.seq (.rg [Im 11 1,Io 12 (.bi .lss .u64 (.t 11) (.k (.int .u64 100)))])
 (.cond (.t 12) (.seq (.rg [Im 13 0,Im 14 1,Io 15 (.cvi .i64 (.t 14)),Io 16 (.call 230 [(.t 15)]),Io 17 (.apps (.t 13) (.t 16)),Im 6 17])
 .ret) .skip))
 (.seq (.rg [Io 7 (.alloc [.int .u8 0,.int .u8 0,.int .u8 0,.int .u8 0,.int .u8 0,.int .u8 0,.int .u8 0,.int .u8 0,.int .u8 0,.int .u8 0,.int .u8 0,.int .u8 0,.int .u8 0,.int .u8 0,.int .u8 0,.int .u8 0,.int .u8 0,.int .u8 0,.int .u8 0,.int .u8 0,.int .u8 0,.int .u8 0,.int .u8 0,.int .u8 0])])
 (.seq (.rg [Im 18 1,Io 19 (.call 231 [(.t 18)]),Im 8 19])
 (.seq (.rg [Im 20 8,Io 21 (.slar 24 (.t 7) (.t 20)),Im 22 1,Io 23 (.call 232 [(.t 21),(.t 22)])])
 (.seq (.rg [Im 24 0,Im 25 8,Io 26 (.slaf 24 1 (.t 7) (.t 25)),z1 27 1 1 24 26,Im 6 27])
 .ret))))) .skip))
 (.seq (.rg [Im 29 0,Im 30 1,Im 31 2,Io 32 (.call 233 [(.t 29),(.t 30),(.t 31),(.k (.bool false)),(.k (.bool true))]),Im 28 32,zr 33 28 0,zr 34 28 1,Im 0 33])
 (.seq (.rg [Im 35 0,Im 6 35])
 .ret)))⟩
theorem ck239:za Tryz.prog 239 ir239=true:=by kernel_rfl
def ir255:zf:=⟨8,1,[.t 2],.seq (.rg [Io 2 (.mv (.k (.sl .nil 2 [])))])
 (.seq (.seq (.rg [Im 3 0,Io 4 (.isnil .s (.t 3))])
 (.cond (.t 4) (.seq (.rg [Io 2 (.mv (.k (.sl .nil 2 [])))])
 .ret) .skip))
 (.seq (.rg [Io 5 (.bls 2 0 [.str [],.int .i64 0] []),Im 6 0,z1 7 2 24 5 6,Im 2 7])
 .ret))⟩
theorem ck255:za Tryz.prog 255 ir255=true:=by kernel_rfl
def ir256:zf:=⟨9,2,[],.rg [Im 4 0,Im 5 0,zD 6 5,Im 7 1,Io 8 (.call 386 [(.t 4),(.t 6),(.t 7)])]⟩
theorem ck256:za Tryz.prog 256 ir256=true:=by kernel_rfl
def ir258:zf:=⟨39,3,[.t 6],.seq (.rg [zj 6 0])
 (.seq (.seq (.rg [Im 11 0,zD 12 11,zj 13 0])
 (.block 0 (.loop [0,1,2,11,12,13] (.seq (.rg [zK 14 13 12])
 (.seq (.cond (.t 14) .skip (.exit 0))
 (.seq (.block 1 (.seq (.rg [Im 15 13,zF 16 2 11 13,zc 17 2 16,Io 8 (.alloc [.str [],.int .i64 0]),Im 7 15,⟨none,none,.st 2 (.t 8) (.t 17),[]⟩])
 (.seq (.seq (.rg [Im 18 7,Im 19 1,zD 20 19,Io 21 (.bi .geq .i64 (.t 18) (.t 20))])
 (.cond (.t 21) (.seq (.rg [zj 6 1])
 .ret) .skip))
 (.seq (.rg [Im 22 1,Im 23 7,zF 24 2 22 23,zc 25 2 24,Io 9 (.alloc [.str [],.int .i64 0]),⟨none,none,.st 2 (.t 9) (.t 25),[]⟩])
 (.seq (.rg [Im 26 2,zc 27 2 8,zc 28 2 9,Io 29 (.callv (.t 26) [(.t 27),(.t 28)]),Im 10 29])
 (.seq (.rg [Im 30 10,Io 31 (.bi .neq .i64 (.t 30) (.k (.int .i64 0)))])
 (.cond (.t 31) (.seq (.rg [Im 32 10,Im 6 32])
 .ret) .skip)))))))
 (.rg [zC 33 13 1,Im 13 33])))))))
 (.seq (.seq (.rg [Im 34 0,zD 35 34,Im 36 1,zD 37 36,zK 38 35 37])
 (.cond (.t 38) (.seq (.rg [Io 6 (.mv (.k (.int .i64 (-1))))])
 .ret) .skip))
 (.seq (.rg [zj 6 0])
 .ret)))⟩
theorem ck258:za Tryz.prog 258 ir258=true:=by kernel_rfl
def ir260:zf:=⟨19,2,[.t 4],.seq (.rg [zj 4 0])
 (.seq (.seq (.rg [Im 6 0,zD 7 6,zj 8 0])
 (.block 0 (.loop [0,1,7,8] (.seq (.rg [zK 9 8 7])
 (.seq (.cond (.t 9) .skip (.exit 0))
 (.seq (.block 1 (.seq (.rg [Im 10 8,Im 5 10])
 (.seq (.rg [Im 11 1,Im 12 0,Im 13 5,zF 14 4 12 13,zc 15 4 14,Io 16 (.callv (.t 11) [(.t 15)])])
 (.cond (.t 16) (.seq (.rg [Im 17 5,Im 4 17])
 .ret) .skip))))
 (.rg [zC 18 8 1,Im 8 18])))))))
 (.seq (.rg [Io 4 (.mv (.k (.int .i64 (-1))))])
 .ret))⟩
theorem ck260:za Tryz.prog 260 ir260=true:=by kernel_rfl
def ir261:zf:=⟨19,2,[.t 4],.seq (.rg [zj 4 0])
 (.seq (.seq (.rg [Im 6 0,zD 7 6,zj 8 0])
 (.block 0 (.loop [0,1,7,8] (.seq (.rg [zK 9 8 7])
 (.seq (.cond (.t 9) .skip (.exit 0))
 (.seq (.block 1 (.seq (.rg [Im 10 8,Im 5 10])
 (.seq (.rg [Im 11 1,Im 12 0,Im 13 5,zF 14 1 12 13,Il 15 1 14,Io 16 (.bs .eql (.t 11) (.t 15))])
 (.cond (.t 16) (.seq (.rg [Im 17 5,Im 4 17])
 .ret) .skip))))
 (.rg [zC 18 8 1,Im 8 18])))))))
 (.seq (.rg [Io 4 (.mv (.k (.int .i64 (-1))))])
 .ret))⟩
theorem ck261:za Tryz.prog 261 ir261=true:=by kernel_rfl
def ir265:zf:=⟨32,2,[.t 4,.t 5],.seq (.rg [zj 4 0,zj 5 0])
 (.seq (.seq (.rg [Im 8 1,Io 9 (.bi .lss .i64 (.t 8) (.k (.int .i64 0))),Im 10 9,Fm 11 10 1,Fm 12 10 0,Jf 13 10 (.lens (.t 12)),Jf 14 10 (.bi .geq .i64 (.t 11) (.t 13)),ye 15 10 14])
 (.cond (.t 15) (.seq (.rg [zj 4 0,zj 5 0])
 .ret) .skip))
 (.seq (.rg [Im 17 0,Im 18 1,Io 19 (.sls (.t 17) (some (.t 18)) none),Io 20 (.call 394 [(.t 19)]),Im 16 20,zr 21 16 0,zr 22 16 1,Im 6 21,Im 7 22])
 (.seq (.seq (.rg [Im 23 6,Io 24 (.bi .eql .i32 (.t 23) (.k (.int .i32 65533))),Im 25 24,Jm 26 25 7,Jt 27 25 (.bi .lss .i64 (.t 26) (.k (.int .i64 2))),zI 28 25 27])
 (.cond (.t 28) (.seq (.rg [zj 4 0,zj 5 0])
 .ret) .skip))
 (.seq (.rg [Im 29 6,Io 30 (.cvi .i64 (.t 29)),Im 31 7,Im 4 30,Im 5 31])
 .ret))))⟩
theorem ck265:za Tryz.prog 265 ir265=true:=by kernel_rfl
def ir266:zf:=⟨21,1,[.t 2],.seq (.rg [zh 2 false])
 (.seq (.rg [Im 3 0,zN 4 3 9,Im 5 4,Fm 6 5 0,Jf 7 5 (.bi .eql .i64 (.t 6) (.k (.int .i64 10))),ye 8 5 7,Im 9 8,Fm 10 9 0,Jf 11 9 (.bi .eql .i64 (.t 10) (.k (.int .i64 13))),ye 12 9 11,Im 13 12,Fm 14 13 0,Jf 15 13 (.bi .geq .i64 (.t 14) (.k (.int .i64 32))),Fm 16 13 15,Jm 17 16 0,Jt 18 16 (.bi .leq .i64 (.t 17) (.k (.int .i64 65535))),Jf 19 13 (.pick (.t 16) (.t 18) (.k (.bool false))),ye 20 13 19,Im 2 20])
 .ret)⟩
theorem ck266:za Tryz.prog 266 ir266=true:=by kernel_rfl
def ir269:zf:=⟨38,1,[.t 2,.t 3],.seq (.rg [Io 2 (.mv (.k (.str []))),zj 3 0])
 (.scope (.seq (.rg [Io 4 (.mv (.k (.sl .nil 1 [])))])
 (.seq (.rg [zj 5 3])
 (.seq .skip
 (.seq (.block 0 (.loop [0,4,5] (.block 1 (.seq (.block 2 (.seq (.rg [Im 7 5,Im 8 0,WW 9 8,Io 10 (.bi .geq .i64 (.t 7) (.t 9)),Im 6 10])
 (.cond (.t 6) (.seq (.rg [Io 2 (.mv (.k (.str []))),zj 3 0])
 .ret) (.seq (.rg [Im 12 0,Im 13 5,Io 14 (.sls (.t 12) (some (.t 13)) none),Io 15 (.call 267 [(.t 14),(.k (.str [34,34,34]))]),Im 11 15])
 (.cond (.t 11) (.exit 0) (.seq (.rg [Im 17 0,Im 18 5,Io 19 (.sls (.t 17) (some (.t 18)) none),Io 20 (.call 267 [(.t 19),(.k (.str [92,34,34,34]))]),Im 16 20])
 (.cond (.t 16) (.seq (.rg [Im 21 4,Io 22 (.apps (.t 21) (.k (.str [34,34,34]))),Im 4 22])
 (.seq (.rg [Im 23 5,zC 24 23 4,Im 5 24])
 (.exit 1))) .skip)))))))
 (.seq (.rg [Im 25 4,Im 26 0,Im 27 5,Io 28 (.ixs (.t 26) (.t 27)),Io 29 (.bls 1 1 [.int .u8 0] [(0,(.t 28))]),z1 30 1 1 25 29,Im 4 30])
 (.rg [Im 31 5,zC 32 31 1,Im 5 32]))))))
 (.seq (.rg [Im 33 4,Io 34 (.cvb2s (.t 33)),Io 35 (.call 400 [(.t 34)]),Im 36 5,zC 37 36 3,Im 2 35,Im 3 37])
 .ret))))))⟩
theorem ck269:za Tryz.prog 269 ir269=true:=by kernel_rfl
def ir270:zf:=⟨75,2,[.t 4,.t 5],.seq (.rg [Io 4 (.mv (.k (.str []))),zj 5 0])
 (.scope (.seq (.rg [Io 9 (.bld [.sl .nil 1 [],.sl .nil 1 [],.bool false] [(2,1,(.k (.bool true)))]),Io 10 (.box (.t 9)),Im 6 10])
 (.seq (.rg [zj 7 1])
 (.seq .skip
 (.seq (.block 0 (.loop [0,1,6,7] (.block 1 (.seq (.block 2 (.seq (.rg [Im 12 7,Im 13 0,WW 14 13,Io 15 (.bi .geq .i64 (.t 12) (.t 14)),Im 11 15])
 (.cond (.t 11) (.seq (.rg [Io 4 (.mv (.k (.str []))),zj 5 0])
 .ret) (.seq (.rg [Im 17 0,Im 18 7,Io 19 (.ixs (.t 17) (.t 18)),Io 20 (.bi .eql .u8 (.t 19) (.k (.int .u8 34))),Im 16 20])
 (.cond (.t 16) (.exit 0) (.seq (.rg [Im 22 0,Im 23 7,Io 24 (.ixs (.t 22) (.t 23)),Io 25 (.bi .eql .u8 (.t 24) (.k (.int .u8 92))),Im 21 25])
 (.cond (.t 21) (.seq (.rg [Im 26 6,Im 27 0,Im 28 7,zC 29 28 1,Io 30 (.sls (.t 27) (some (.t 29)) none),Io 31 (.call 401 [(.t 26),(.t 30)]),Im 8 31])
 (.seq (.seq (.rg [Im 32 8,zN 33 32 0])
 (.cond (.t 33) (.seq (.rg [Io 4 (.mv (.k (.str []))),zj 5 0])
 .ret) .skip))
 (.seq (.rg [Im 34 7,Im 35 8,Io 36 (.bi .add .i64 (.k (.int .i64 1)) (.t 35)),XM 37 34 36,Im 7 37])
 (.exit 1)))) (.seq (.rg [Im 39 1,Im 40 0,Im 41 7,Io 42 (.ixs (.t 40) (.t 41)),Io 43 (.callv (.t 39) [(.t 42)]),zW 44 43,Im 38 44])
 (.cond (.t 38) (.seq (.rg [Io 4 (.mv (.k (.str []))),zj 5 0])
 .ret) .skip)))))))))
 (.seq (.rg [Im 45 6,Io 46 (.call 402 [(.t 45)])])
 (.seq (.reg [0,1,2,3,4,5,6,7,8,9,10,11,12] [Im 47 6,Im 48 6,zk 49 48,If 50 0 49,Il 51 1 50,Im 52 0,Im 53 7,Io 54 (.ixs (.t 52) (.t 53)),Io 55 (.bls 1 1 [.int .u8 0] [(0,(.t 54))]),z1 56 1 1 51 55,zk 57 47,If 58 0 57,⟨none,none,.st 1 (.t 58) (.t 56),[]⟩])
 (.rg [Im 59 7,zC 60 59 1,Im 7 60])))))))
 (.seq (.rg [Im 61 6,Io 62 (.call 402 [(.t 61)])])
 (.seq (.seq (.rg [Im 63 6,zk 64 63,If 65 2 64,Il 66 1 65,zW 67 66])
 (.cond (.t 67) (.seq (.rg [Io 4 (.mv (.k (.str []))),zj 5 0])
 .ret) .skip))
 (.seq (.rg [Im 68 6,zk 69 68,If 70 0 69,Il 71 1 70,Io 72 (.cvb2s (.t 71)),Im 73 7,zC 74 73 1,Im 4 72,Im 5 74])
 .ret))))))))⟩
theorem ck270:za Tryz.prog 270 ir270=true:=by kernel_rfl
def ir271:zf:=⟨9,1,[.t 2],.seq (.rg [zh 2 false])
 (.seq (.rg [Im 3 0,Io 4 (.bi .neq .u8 (.t 3) (.k (.int .u8 10))),Im 5 4,Jm 6 5 0,Jt 7 5 (.bi .neq .u8 (.t 6) (.k (.int .u8 13))),zI 8 5 7,Im 2 8])
 .ret)⟩
theorem ck271:za Tryz.prog 271 ir271=true:=by kernel_rfl
def ir272:zf:=⟨21,1,[.t 2],.seq (.rg [zh 2 false])
 (.seq (.rg [Im 3 0,Io 4 (.bi .geq .u8 (.t 3) (.k (.int .u8 97))),Im 5 4,Jm 6 5 0,Jt 7 5 (.bi .leq .u8 (.t 6) (.k (.int .u8 122))),zI 8 5 7,Im 9 8,Fm 10 9 0,Jf 11 9 (.bi .geq .u8 (.t 10) (.k (.int .u8 65))),Fm 12 9 11,Jm 13 12 0,Jt 14 12 (.bi .leq .u8 (.t 13) (.k (.int .u8 90))),Jf 15 9 (.pick (.t 12) (.t 14) (.k (.bool false))),ye 16 9 15,Im 17 16,Fm 18 17 0,Jf 19 17 (.bi .eql .u8 (.t 18) (.k (.int .u8 95))),ye 20 17 19,Im 2 20])
 .ret)⟩
theorem ck272:za Tryz.prog 272 ir272=true:=by kernel_rfl
def ir273:zf:=⟨27,1,[.t 2],.seq (.rg [zj 2 0])
 (.seq (.rg [zj 3 0])
 (.seq (.block 0 (.loop [0,3] (.seq (.seq (.rg [Im 4 3,Im 5 0,WW 6 5,zK 7 4 6,Im 8 7,Jm 9 8 0,Jm 10 8 3,Jt 11 8 (.ixs (.t 9) (.t 10)),Jt 12 8 (.call 272 [(.t 11)]),Jm 13 8 12,Fm 14 13 3,Jf 15 13 (.bi .gtr .i64 (.t 14) (.k (.int .i64 0))),Fm 16 13 15,Jm 17 16 0,Jm 18 16 3,Jt 19 16 (.ixs (.t 17) (.t 18)),Jt 20 16 (.call 275 [(.t 19)]),Jf 21 13 (.pick (.t 16) (.t 20) (.k (.bool false))),Jt 22 8 (.pick (.t 13) (.k (.bool true)) (.t 21)),zI 23 8 22])
 (.cond (.t 23) .skip (.exit 0)))
 (.block 1 (.rg [Im 24 3,zC 25 24 1,Im 3 25])))))
 (.seq (.rg [Im 26 3,Im 2 26])
 .ret)))⟩
theorem ck273:za Tryz.prog 273 ir273=true:=by kernel_rfl
def ir274:zf:=⟨38,1,[.t 2,.t 3],.seq (.rg [zj 2 0,zj 3 0])
 (.seq (.rg [Im 8 0,Io 9 (.call 403 [(.t 8)]),Im 4 9])
 (.seq (.seq (.rg [Im 10 4,zN 11 10 0])
 (.cond (.t 11) (.seq (.rg [zj 2 0,zj 3 0])
 .ret) .skip))
 (.seq (.rg [zj 5 3])
 (.seq (.seq (.rg [Im 12 0,Im 13 4,Io 14 (.sls (.t 12) (some (.t 13)) none),Io 15 (.call 267 [(.t 14),(.k (.str [46]))])])
 (.cond (.t 15) (.seq (.rg [Im 16 0,Im 17 4,zC 18 17 1,Io 19 (.sls (.t 16) (some (.t 18)) none),Io 20 (.call 404 [(.t 19)]),Im 6 20])
 (.seq (.rg [Im 21 6,YV 22 21 0])
 (.cond (.t 22) (.rg [Im 23 4,zC 24 23 1,Im 25 6,XM 26 24 25,Im 4 26,zj 5 4]) .skip))) .skip))
 (.seq (.seq (.rg [Im 27 0,Im 28 4,Io 29 (.sls (.t 27) (some (.t 28)) none),Io 30 (.call 405 [(.t 29)]),Im 7 30])
 (.seq (.rg [Im 31 7,YV 32 31 0])
 (.cond (.t 32) (.rg [Im 33 4,Im 34 7,XM 35 33 34,Im 4 35,zj 5 4]) .skip)))
 (.seq (.rg [Im 36 4,Im 37 5,Im 2 36,Im 3 37])
 .ret))))))⟩
theorem ck274:za Tryz.prog 274 ir274=true:=by kernel_rfl
def ir275:zf:=⟨9,1,[.t 2],.seq (.rg [zh 2 false])
 (.seq (.rg [Im 3 0,Io 4 (.bi .geq .u8 (.t 3) (.k (.int .u8 48))),Im 5 4,Jm 6 5 0,Jt 7 5 (.bi .leq .u8 (.t 6) (.k (.int .u8 57))),zI 8 5 7,Im 2 8])
 .ret)⟩
theorem ck275:za Tryz.prog 275 ir275=true:=by kernel_rfl
def ir276:zf:=⟨44,1,[.c 2 3 true],.seq (.rg [Io 2 (.alloc [.str [],.int .i64 0,.int .i64 0])])
 (.seq (.rg [zj 3 0])
 (.seq (.block 0 (.loop [0,2,3] (.seq (.seq (.rg [Im 6 0,Io 7 (.call 118 [(.t 6),(.k (.str [91]))])])
 (.cond (.t 7) .skip (.exit 0)))
 (.block 1 (.seq (.seq (.rg [Im 8 3,zN 9 8 4])
 (.cond (.t 9) (.rg [Im 10 0,Io 11 (.call 99 [(.t 10),(.k (.int .i64 4))])]) .skip))
 (.seq (.rg [Im 12 0,zk 13 12,If 14 1 13,Il 15 1 14,zC 16 15 1,zk 17 12,If 18 1 17,⟨none,none,.st 1 (.t 18) (.t 16),[]⟩])
 (.rg [Im 19 3,zC 20 19 1,Im 3 20])))))))
 (.seq (.rg [Im 21 0,Io 22 (.call 158 [(.t 21)]),Im 23 3,Io 24 (.bld [.str [],.int .i64 0,.int .i64 0] [(0,1,(.t 22)),(1,1,(.t 23))]),Io 4 (.alloc [.str [],.int .i64 0,.int .i64 0]),⟨none,none,.st 3 (.t 4) (.t 24),[]⟩])
 (.seq (.seq (.rg [Im 25 3,Im 5 25])
 (.block 2 (.loop [0,2,3,4,5] (.seq (.seq (.rg [Im 26 5,Io 27 (.bi .geq .i64 (.t 26) (.k (.int .i64 0)))])
 (.cond (.t 27) .skip (.exit 2)))
 (.seq (.block 3 (.seq (.seq (.rg [Im 30 5,Im 31 3,zK 32 30 31])
 (.cond (.t 32) (.rg [Im 33 0,Io 34 (.call 157 [(.t 33),(.k (.str [93]))])]) .skip))
 (.seq (.rg [Im 35 0,Io 36 (.call 161 [(.t 35),(.k (.str [33]))])])
 (.cond (.t 36) (.reg [0,1,2,3,4,5,6] [If 37 2 4,Il 38 1 37,Im 39 5,Io 40 (.shf .shl (.k (.int .i64 1)) (.t 39)),Io 41 (.bi .or .i64 (.t 38) (.t 40)),If 42 2 4,⟨none,none,.st 1 (.t 42) (.t 41),[]⟩]) .skip))))
 (.rg [Im 28 5,VA 29 28 1,Im 5 29]))))))
 (.seq (.rg [zc 43 3 4,⟨none,none,.st 3 (.t 2) (.t 43),[]⟩])
 .ret)))))⟩
theorem ck276:za Tryz.prog 276 ir276=true:=by kernel_rfl
def ir277:zf:=⟨39,1,[.c 2 10 true],.seq (.rg [Io 2 (.alloc [.str [],.str [],.int .i64 0,.int .i64 0,.bool false,.int .i64 0,.int .i64 0,.str [],.sl .nil 5 [],.sl .nil 6 []])])
 (.seq (.rg [Im 4 0,zk 5 4,If 6 0 5,Il 7 1 6,Io 8 (.call 100 [(.t 7)])])
 (.seq (.rg [Im 9 0,zk 10 9,If 11 0 10,Il 12 1 11,Io 13 (.call 158 [(.t 12)]),Io 14 (.bld [.str [],.str [],.int .i64 0,.int .i64 0,.bool false,.int .i64 0,.int .i64 0,.str [],.sl .nil 5 [],.sl .nil 6 []] [(0,1,(.t 13))]),Io 3 (.alloc [.str [],.str [],.int .i64 0,.int .i64 0,.bool false,.int .i64 0,.int .i64 0,.str [],.sl .nil 5 [],.sl .nil 6 []]),⟨none,none,.st 10 (.t 3) (.t 14),[]⟩])
 (.seq (.rg [Im 15 0,zk 16 15,If 17 0 16,Il 18 1 17,Io 19 (.call 157 [(.t 18),(.k (.str [58]))])])
 (.seq (.rg [Im 20 0,zk 21 20,If 22 0 21,Il 23 1 22,Io 24 (.call 276 [(.t 23)]),If 25 1 3,⟨none,none,.st 3 (.t 25) (.t 24),[]⟩])
 (.seq (.seq (.rg [Im 26 0,zk 27 26,If 28 0 27,Il 29 1 28,Io 30 (.call 161 [(.t 29),(.k (.str [61]))])])
 (.cond (.t 30) (.rg [Im 31 0,zk 32 31,If 33 0 32,Il 34 1 33,Io 35 (.call 324 [(.t 34),(.k (.bool true))]),If 36 4 3,⟨none,none,.st 1 (.t 36) (.k (.bool true)),[]⟩,If 37 5 3,⟨none,none,.st 5 (.t 37) (.t 35),[]⟩]) .skip))
 (.seq (.rg [zc 38 10 3,⟨none,none,.st 10 (.t 2) (.t 38),[]⟩])
 .ret))))))⟩
theorem ck277:za Tryz.prog 277 ir277=true:=by kernel_rfl
def ir278:zf:=⟨22,2,[.t 4],.seq (.rg [Io 4 (.mv (.k (.sl .nil 1 [])))])
 (.seq (.rg [Io 5 (.mv (.k (.sl .nil 1 [])))])
 (.seq (.seq (.rg [Im 8 0,zD 9 8,zj 10 0])
 (.block 0 (.loop [1,5,8,9,10] (.seq (.rg [zK 11 10 9])
 (.seq (.cond (.t 11) .skip (.exit 0))
 (.seq (.block 1 (.seq (.rg [zF 12 6 8 10,zc 13 6 12,Io 7 (.alloc [.int .i64 0,.str [],.sl .nil 1 [],.sl .nil 6 [],.sl .nil 1 [],.sl .nil 10 []]),⟨none,none,.st 6 (.t 7) (.t 13),[]⟩])
 (.rg [Im 14 5,Im 15 1,zc 16 6 7,Io 17 (.callv (.t 15) [(.t 16)]),Io 18 (.bls 1 1 [.str []] [(0,(.t 17))]),z1 19 1 16 14 18,Im 5 19])))
 (.rg [zC 20 10 1,Im 10 20])))))))
 (.seq (.rg [Im 21 5,Im 4 21])
 .ret)))⟩
theorem ck278:za Tryz.prog 278 ir278=true:=by kernel_rfl
def ir279:zf:=⟨5,1,[.t 2],.seq (.rg [zp 1 0,Io 2 (.mv (.k (.str [])))])
 (.seq (.rg [If 3 1 1,Il 4 1 3,Im 2 4])
 .ret)⟩
theorem ck279:za Tryz.prog 279 ir279=true:=by kernel_rfl
def ir280:zf:=⟨11,1,[.t 2],.seq (.rg [zp 1 0,zh 2 false])
 (.seq (.rg [zc 6 3 1,Io 7 (.call 406 [(.t 6)]),Im 5 7,zr 8 5 0,zr 9 5 1,Im 3 8,Im 4 9])
 (.seq (.rg [Im 10 4,Im 2 10])
 .ret))⟩
theorem ck280:za Tryz.prog 280 ir280=true:=by kernel_rfl
def ir281:zf:=⟨18,1,[.t 2],.seq (.rg [zh 2 false])
 (.seq (.seq (.rg [Im 5 0,zD 6 5,zj 7 0])
 (.block 0 (.loop [0,5,6,7] (.seq (.rg [zK 8 7 6])
 (.seq (.cond (.t 8) .skip (.exit 0))
 (.seq (.block 1 (.seq (.rg [Im 9 7,zF 10 1 5 7,Il 11 1 10,Im 3 9,Im 4 11])
 (.seq (.rg [Im 12 0,Im 13 3,Io 14 (.sll 1 (.t 12) none (some (.t 13)) none),Im 15 4,Io 16 (.call 148 [(.t 14),(.t 15)])])
 (.cond (.t 16) (.seq (.rg [zh 2 false])
 .ret) .skip))))
 (.rg [zC 17 7 1,Im 7 17])))))))
 (.seq (.rg [zh 2 true])
 .ret))⟩
theorem ck281:za Tryz.prog 281 ir281=true:=by kernel_rfl
def ir282:zf:=⟨6,1,[.t 2],.seq (.rg [zh 2 false])
 (.seq (.rg [Im 3 0,Io 4 (.call 283 [(.t 3),(.k (.clo 407 [] []))]),zW 5 4,Im 2 5])
 .ret)⟩
theorem ck282:za Tryz.prog 282 ir282=true:=by kernel_rfl
def ir283:zf:=⟨9,2,[.t 4],.seq (.rg [zh 4 false])
 (.seq (.rg [Im 5 0,Im 6 1,Io 7 (.call 408 [(.t 5),(.t 6)]),Io 8 (.bi .geq .i64 (.t 7) (.k (.int .i64 0))),Im 4 8])
 .ret)⟩
theorem ck283:za Tryz.prog 283 ir283=true:=by kernel_rfl
def ir284:zf:=⟨8,2,[.t 3],.seq (.rg [zh 3 false])
 (.seq (.rg [zc 4 3 1,Im 5 0,Io 6 (.bls 1 1 [.int .i64 0] [(0,(.k (.int .i64 0)))]),Io 7 (.call 285 [(.t 4),(.t 5),(.t 6)]),Im 3 7])
 .ret)⟩
theorem ck284:za Tryz.prog 284 ir284=true:=by kernel_rfl
def ir285:zf:=⟨22,3,[.t 6],.seq (.rg [zp 3 0,zh 6 false])
 (.seq (.rg [zc 10 3 3,Im 11 1,Io 12 (.call 299 [(.t 10),(.t 11)]),Im 9 12,zr 13 9 0,zr 14 9 1,Io 7 (.alloc [.int .i64 0,.str [],.sl .nil 1 [],.sl .nil 6 [],.sl .nil 1 [],.sl .nil 10 []]),⟨none,none,.st 6 (.t 7) (.t 13),[]⟩,Im 8 14])
 (.seq (.rg [Im 15 8,Im 16 15,Jm 17 16 2,Ja 18 16 0 7,Jl 19 16 1 18,Jt 20 16 (.call 409 [(.t 17),(.t 19)]),zI 21 16 20,Im 6 21])
 .ret))⟩
theorem ck285:za Tryz.prog 285 ir285=true:=by kernel_rfl
def ir286:zf:=⟨9,1,[.t 2],.seq (.rg [zh 2 false])
 (.seq (.rg [Im 3 0,Io 4 (.call 281 [(.t 3)]),Im 5 4,Jm 6 5 0,Jt 7 5 (.call 282 [(.t 6)]),zI 8 5 7,Im 2 8])
 .ret)⟩
theorem ck286:za Tryz.prog 286 ir286=true:=by kernel_rfl
def ir287:zf:=⟨10,2,[.t 4],.seq (.rg [zp 2 0,zp 3 1,zh 4 false])
 (.seq (.rg [If 5 0 2,Il 6 1 5,Io 7 (.mkfn 410 [] [(.t 3)]),Io 8 (.call 51 [(.t 6),(.t 7)]),zW 9 8,Im 4 9])
 .ret)⟩
theorem ck287:za Tryz.prog 287 ir287=true:=by kernel_rfl
def ir288:zf:=⟨33,2,[.t 3],.seq (.rg [zp 2 0,zh 3 false])
 (.seq (.reg [0,1,2,3,4,5,6,7,8,9,10,11,12,13,14,15,16,17,18,19,20,21,22,23,24,25,26,27,28,29] [Il 4 1 1,If 5 3 2,Il 6 1 5,⟨some 7,none,.call 289 [(.t 6),(.k (.clo 290 [] []))],[0]⟩,Io 8 (.callv (.t 4) [(.t 7)]),Im 9 8,Jl 10 9 1 1,Ja 11 9 5 2,Jl 12 9 1 11,⟨some 13,(some (9,true)),.call 291 [(.t 12),(.k (.clo 292 [] []))],[6]⟩,Jt 14 9 (.callv (.t 10) [(.t 13)]),zI 15 9 14,Im 16 15,Ja 17 16 4 2,Jl 18 16 1 17,Jt 19 16 (.call 281 [(.t 18)]),zI 20 16 19,Im 21 20,Ja 22 21 2 2,Jl 23 21 1 22,Jt 24 21 (.call 281 [(.t 23)]),zI 25 21 24,Im 26 25,Ja 27 26 3 2,Jl 28 26 1 27,Jt 29 26 (.mkfn 293 [] [(.t 1)]),Jt 30 26 (.call 53 [(.t 28),(.t 29)]),Jt 31 26 (.not (.t 30)),zI 32 26 31,Im 3 32])
 .ret)⟩
theorem ck288:za Tryz.prog 288 ir288=true:=by kernel_rfl
def ir289:zf:=⟨22,2,[.t 4],.seq (.rg [Io 4 (.mv (.k (.sl .nil 1 [])))])
 (.seq (.rg [Io 5 (.mv (.k (.sl .nil 1 [])))])
 (.seq (.seq (.rg [Im 8 0,zD 9 8,zj 10 0])
 (.block 0 (.loop [1,5,8,9,10] (.seq (.rg [zK 11 10 9])
 (.seq (.cond (.t 11) .skip (.exit 0))
 (.seq (.block 1 (.seq (.rg [zF 12 6 8 10,zc 13 6 12,Io 7 (.alloc [.str [],.sl .nil 10 [],.str [],.int .i64 0,.int .i64 0,.sl .nil 2 []]),⟨none,none,.st 6 (.t 7) (.t 13),[]⟩])
 (.rg [Im 14 5,Im 15 1,zc 16 6 7,Io 17 (.callv (.t 15) [(.t 16)]),Io 18 (.bls 1 1 [.str []] [(0,(.t 17))]),z1 19 1 16 14 18,Im 5 19])))
 (.rg [zC 20 10 1,Im 10 20])))))))
 (.seq (.rg [Im 21 5,Im 4 21])
 .ret)))⟩
theorem ck289:za Tryz.prog 289 ir289=true:=by kernel_rfl
def ir290:zf:=⟨5,1,[.t 2],.seq (.rg [zp 1 0,Io 2 (.mv (.k (.str [])))])
 (.seq (.rg [If 3 0 1,Il 4 1 3,Im 2 4])
 .ret)⟩
theorem ck290:za Tryz.prog 290 ir290=true:=by kernel_rfl
def ir291:zf:=⟨22,2,[.t 4],.seq (.rg [Io 4 (.mv (.k (.sl .nil 1 [])))])
 (.seq (.rg [Io 5 (.mv (.k (.sl .nil 1 [])))])
 (.seq (.seq (.rg [Im 8 0,zD 9 8,zj 10 0])
 (.block 0 (.loop [1,5,8,9,10] (.seq (.rg [zK 11 10 9])
 (.seq (.cond (.t 11) .skip (.exit 0))
 (.seq (.block 1 (.seq (.rg [zF 12 10 8 10,zc 13 10 12,Io 7 (.alloc [.str [],.str [],.int .i64 0,.int .i64 0,.bool false,.int .i64 0,.int .i64 0,.str [],.sl .nil 5 [],.sl .nil 6 []]),⟨none,none,.st 10 (.t 7) (.t 13),[]⟩])
 (.rg [Im 14 5,Im 15 1,zc 16 10 7,Io 17 (.callv (.t 15) [(.t 16)]),Io 18 (.bls 1 1 [.str []] [(0,(.t 17))]),z1 19 1 16 14 18,Im 5 19])))
 (.rg [zC 20 10 1,Im 10 20])))))))
 (.seq (.rg [Im 21 5,Im 4 21])
 .ret)))⟩
theorem ck291:za Tryz.prog 291 ir291=true:=by kernel_rfl
def ir292:zf:=⟨5,1,[.t 2],.seq (.rg [zp 1 0,Io 2 (.mv (.k (.str [])))])
 (.seq (.rg [If 3 0 1,Il 4 1 3,Im 2 4])
 .ret)⟩
theorem ck292:za Tryz.prog 292 ir292=true:=by kernel_rfl
def ir293:zf:=⟨10,2,[.t 3],.seq (.rg [zp 2 0,zh 3 false])
 (.seq (.reg [0,1,2,3,4,5,6] [Il 4 1 1,If 5 1 2,Il 6 1 5,⟨some 7,none,.call 291 [(.t 6),(.k (.clo 292 [] []))],[0]⟩,Io 8 (.callv (.t 4) [(.t 7)]),zW 9 8,Im 3 9])
 .ret)⟩
theorem ck293:za Tryz.prog 293 ir293=true:=by kernel_rfl
def ir294:zf:=⟨15,2,[.t 3],.seq (.rg [zp 2 0,zh 3 false])
 (.seq (.rg [zc 4 3 1,If 5 5 2,Il 6 1 5,Io 7 (.call 295 [(.t 4),(.t 6)]),Im 8 7,Ja 9 8 3 2,Jl 10 8 1 9,Jt 11 8 (.mkfn 296 [] [(.t 1)]),Jt 12 8 (.call 53 [(.t 10),(.t 11)]),Jt 13 8 (.not (.t 12)),zI 14 8 13,Im 3 14])
 .ret)⟩
theorem ck294:za Tryz.prog 294 ir294=true:=by kernel_rfl
def ir295:zf:=⟨9,2,[.t 4],.seq (.rg [zp 2 0,zh 4 false])
 (.seq (.rg [Im 5 1,Io 6 (.mkfn 411 [] [(.t 2)]),Io 7 (.call 310 [(.t 5),(.t 6)]),zW 8 7,Im 4 8])
 .ret)⟩
theorem ck295:za Tryz.prog 295 ir295=true:=by kernel_rfl
def ir296:zf:=⟨25,2,[.t 3],.seq (.rg [zp 2 0,zh 3 false])
 (.seq (.rg [zc 4 3 1,If 5 2 2,If 6 0 5,Il 7 1 6,Io 8 (.call 176 [(.t 4),(.t 7)]),zW 9 8,Im 10 9,Jt 11 10 (.ld 3 true (.t 1)),Ja 12 10 2 2,Ja 13 10 0 12,Jl 14 10 1 13,Jt 15 10 (.call 177 [(.t 11),(.t 14)]),Jt 16 10 (.not (.t 15)),zI 17 10 16,Im 18 17,Jf 19 18 (.ld 3 true (.t 1)),Fa 20 18 1 2,Fl 21 18 1 20,Jf 22 18 (.call 295 [(.t 19),(.t 21)]),Jf 23 18 (.not (.t 22)),ye 24 18 23,Im 3 24])
 .ret)⟩
theorem ck296:za Tryz.prog 296 ir296=true:=by kernel_rfl
def ir297:zf:=⟨9,2,[.t 3],.seq (.rg [Io 2 (.box (.t 0)),zh 3 false])
 (.seq (.rg [If 4 2 2,Il 5 1 4,Io 6 (.mkfn 298 [] [(.t 1),(.t 2)]),Io 7 (.call 283 [(.t 5),(.t 6)]),zW 8 7,Im 3 8])
 .ret)⟩
theorem ck297:za Tryz.prog 297 ir297=true:=by kernel_rfl
def ir298:zf:=⟨32,3,[.t 4],.seq (.rg [zh 4 false])
 (.seq (.rg [zc 8 3 1,Im 9 0,Io 10 (.call 299 [(.t 8),(.t 9)]),Im 7 10,zr 11 7 0,zr 12 7 1,Io 5 (.alloc [.int .i64 0,.str [],.sl .nil 1 [],.sl .nil 6 [],.sl .nil 1 [],.sl .nil 10 []]),⟨none,none,.st 6 (.t 5) (.t 11),[]⟩,Im 6 12])
 (.seq (.rg [Im 13 6,zW 14 13,Im 15 14,Fa 16 15 0 5,Fl 17 15 1 16,Jf 18 15 (.bi .neq .i64 (.t 17) (.k (.int .i64 2))),ye 19 15 18,Im 20 19,Fm 21 20 0,Fa 22 20 1 2,Fl 23 20 1 22,Jf 24 20 (.bs .eql (.t 21) (.t 23)),ye 25 20 24,Im 26 25,Fa 27 26 2 5,Fl 28 26 1 27,Jf 29 26 (.mkfn 300 [] [(.t 2)]),Jf 30 26 (.call 283 [(.t 28),(.t 29)]),ye 31 26 30,Im 4 31])
 .ret))⟩
theorem ck298:za Tryz.prog 298 ir298=true:=by kernel_rfl
def ir299:zf:=⟨26,2,[.c 4 6 true,.t 5],.seq (.rg [zp 2 0,Io 4 (.alloc [.int .i64 0,.str [],.sl .nil 1 [],.sl .nil 6 [],.sl .nil 1 [],.sl .nil 10 []]),zh 5 false])
 (.seq (.seq (.rg [Im 8 1,Io 9 (.call 412 [(.t 8)])])
 (.cond (.t 9) (.seq (.rg [Im 10 1,Io 11 (.bld [.int .i64 0,.str [],.sl .nil 1 [],.sl .nil 6 [],.sl .nil 1 [],.sl .nil 10 []] [(0,1,(.k (.int .i64 0))),(1,1,(.t 10))]),⟨none,none,.st 6 (.t 4) (.t 11),[]⟩,zh 5 true])
 .ret) .skip))
 (.seq (.seq (.rg [If 12 0 2,Il 13 1 12,zD 14 13,zj 15 0])
 (.block 0 (.loop [1,4,13,14,15] (.seq (.rg [zK 16 15 14])
 (.seq (.cond (.t 16) .skip (.exit 0))
 (.seq (.block 1 (.seq (.rg [zF 17 6 13 15,zc 18 6 17,Io 7 (.alloc [.int .i64 0,.str [],.sl .nil 1 [],.sl .nil 6 [],.sl .nil 1 [],.sl .nil 10 []]),⟨none,none,.st 6 (.t 7) (.t 18),[]⟩])
 (.seq (.rg [If 19 1 7,Il 20 1 19,Im 21 1,Io 22 (.bs .eql (.t 20) (.t 21))])
 (.cond (.t 22) (.seq (.rg [zc 23 6 7,⟨none,none,.st 6 (.t 4) (.t 23),[]⟩,zh 5 true])
 .ret) .skip))))
 (.rg [zC 24 15 1,Im 15 24])))))))
 (.seq (.rg [Io 25 (.bld [.int .i64 0,.str [],.sl .nil 1 [],.sl .nil 6 [],.sl .nil 1 [],.sl .nil 10 []] []),⟨none,none,.st 6 (.t 4) (.t 25),[]⟩,zh 5 false])
 .ret)))⟩
theorem ck299:za Tryz.prog 299 ir299=true:=by kernel_rfl
def ir300:zf:=⟨9,2,[.t 3],.seq (.rg [zh 3 false])
 (.seq (.rg [If 4 2 1,Il 5 1 4,Im 6 0,Io 7 (.call 148 [(.t 5),(.t 6)]),zW 8 7,Im 3 8])
 .ret)⟩
theorem ck300:za Tryz.prog 300 ir300=true:=by kernel_rfl
def ir301:zf:=⟨9,2,[.t 3],.seq (.rg [zp 2 0,zh 3 false])
 (.seq (.rg [If 4 2 2,Il 5 1 4,Io 6 (.mkfn 302 [] [(.t 1),(.t 2)]),Io 7 (.call 283 [(.t 5),(.t 6)]),zW 8 7,Im 3 8])
 .ret)⟩
theorem ck301:za Tryz.prog 301 ir301=true:=by kernel_rfl
def ir302:zf:=⟨10,3,[.t 4],.seq (.rg [zh 4 false])
 (.seq (.rg [zc 5 3 1,zc 6 6 2,Im 7 0,Io 8 (.call 303 [(.t 5),(.t 6),(.t 7)]),zW 9 8,Im 4 9])
 .ret)⟩
theorem ck302:za Tryz.prog 302 ir302=true:=by kernel_rfl
def ir303:zf:=⟨55,3,[.t 6],.seq (.rg [zp 3 0,zp 4 1,zh 6 false])
 (.seq (.rg [zc 13 3 3,Im 14 2,Io 15 (.call 299 [(.t 13),(.t 14)]),Im 12 15,zr 16 12 0,zr 17 12 1,Io 7 (.alloc [.int .i64 0,.str [],.sl .nil 1 [],.sl .nil 6 [],.sl .nil 1 [],.sl .nil 10 []]),⟨none,none,.st 6 (.t 7) (.t 16),[]⟩,Im 8 17])
 (.seq (.seq (.rg [If 18 3 7,Il 19 1 18,zD 20 19,zj 21 0])
 (.block 0 (.loop [3,4,19,20,21] (.seq (.rg [zK 22 21 20])
 (.seq (.cond (.t 22) .skip (.exit 0))
 (.seq (.block 1 (.seq (.rg [zF 23 6 19 21,zc 24 6 23,Io 10 (.alloc [.str [],.sl .nil 10 [],.str [],.int .i64 0,.int .i64 0,.sl .nil 2 []]),⟨none,none,.st 6 (.t 10) (.t 24),[]⟩])
 (.seq (.rg [If 25 3 4,Il 26 1 25,Io 27 (.mkfn 413 [] [(.t 10)]),Io 28 (.call 109 [(.t 26),(.t 27)]),Im 11 28])
 (.seq (.reg [0,1,2,3,4,5,6,7,8,9,10,11,12,13,14,15,16,17,18,19,20,21,22,23,24] [Im 29 11,Io 30 (.bi .lss .i64 (.t 29) (.k (.int .i64 0))),Im 31 30,Jf 32 31 (.ld 3 true (.t 3)),Fa 33 31 3 4,Fl 34 31 1 33,Fm 35 31 11,Jf 36 31 (.ia 6 (.t 34) (.t 35)),Fa 37 31 2 36,Jf 38 31 (.ld 3 true (.t 37)),Fa 39 31 2 10,Jf 40 31 (.ld 3 true (.t 39)),Jf 41 31 (.call 414 [(.t 32),(.t 38),(.t 40)]),Jf 42 31 (.not (.t 41)),ye 43 31 42,Im 44 43,Fa 45 44 3 4,Fl 46 44 1 45,Fm 47 44 11,Jf 48 44 (.ia 6 (.t 46) (.t 47)),Jf 49 44 (.ld 6 true (.t 48)),Jf 50 44 (.ld 6 true (.t 10)),Jf 51 44 (.call 415 [(.t 49),(.t 50)]),Jf 52 44 (.not (.t 51)),ye 53 44 52])
 (.cond (.t 53) (.seq (.rg [zh 6 false])
 .ret) .skip)))))
 (.rg [zC 54 21 1,Im 21 54])))))))
 (.seq (.rg [zh 6 true])
 .ret)))⟩
theorem ck303:za Tryz.prog 303 ir303=true:=by kernel_rfl
def ir304:zf:=⟨14,2,[.t 3],.seq (.rg [zp 2 0,zh 3 false])
 (.seq (.rg [If 4 0 2,Il 5 1 4,Io 6 (.bi .neq .i64 (.t 5) (.k (.int .i64 3))),Im 7 6,Fa 8 7 4 2,Fl 9 7 1 8,Jf 10 7 (.mkfn 305 [] [(.t 1)]),Jf 11 7 (.call 283 [(.t 9),(.t 10)]),Jf 12 7 (.not (.t 11)),ye 13 7 12,Im 3 13])
 .ret)⟩
theorem ck304:za Tryz.prog 304 ir304=true:=by kernel_rfl
def ir305:zf:=⟨9,2,[.t 3],.seq (.rg [zh 3 false])
 (.seq (.rg [zc 4 3 1,Im 5 0,Io 6 (.bls 1 1 [.int .i64 0] [(0,(.k (.int .i64 1)))]),Io 7 (.call 285 [(.t 4),(.t 5),(.t 6)]),zW 8 7,Im 3 8])
 .ret)⟩
theorem ck305:za Tryz.prog 305 ir305=true:=by kernel_rfl
def ir306:zf:=⟨14,2,[.t 3],.seq (.rg [zp 2 0,zh 3 false])
 (.seq (.rg [If 4 0 2,Il 5 1 4,Io 6 (.bi .neq .i64 (.t 5) (.k (.int .i64 5))),Im 7 6,Jf 8 7 (.ld 3 true (.t 1)),Fa 9 7 1 2,Fl 10 7 1 9,Jf 11 7 (.call 307 [(.t 8),(.t 10)]),Jf 12 7 (.not (.t 11)),ye 13 7 12,Im 3 13])
 .ret)⟩
theorem ck306:za Tryz.prog 306 ir306=true:=by kernel_rfl
def ir307:zf:=⟨44,2,[.t 4],.seq (.rg [zp 2 0,zh 4 false])
 (.scope (.seq (.rg [zc 9 3 2,Im 10 1,Io 11 (.call 416 [(.t 9),(.t 10)]),Im 5 11])
 (.seq .skip
 (.seq (.seq (.rg [zj 6 0])
 (.block 0 (.loop [1,2,5,6] (.seq (.seq (.rg [Im 12 6,Im 13 5,zD 14 13,zK 15 12 14])
 (.cond (.t 15) .skip (.exit 0)))
 (.seq (.block 1 (.seq (.seq (.rg [Im 18 5,Im 19 6,zF 20 1 18 19,Il 21 1 20,Im 22 1,Io 23 (.bs .eql (.t 21) (.t 22))])
 (.cond (.t 23) (.seq (.rg [zh 4 true])
 .ret) .skip))
 (.seq (.seq (.reg [0,1,2,3,4,7,5,6] [zc 24 3 2,Im 25 5,Im 26 6,zF 27 1 25 26,Il 28 1 27,zj 31 0,Io 29 (.call 416 [(.t 24),(.t 28)]),zD 30 29])
 (.block 2 (.loop [1,2,5,6,29,30,31] (.seq (.rg [zK 32 31 30])
 (.seq (.cond (.t 32) .skip (.exit 2))
 (.seq (.block 3 (.seq (.rg [zF 33 1 29 31,Il 34 1 33,Im 8 34])
 (.seq (.rg [Im 35 5,Im 36 8,Io 37 (.call 148 [(.t 35),(.t 36)]),zW 38 37])
 (.cond (.t 38) (.rg [Im 39 5,Im 40 8,Io 41 (.bls 1 1 [.str []] [(0,(.t 40))]),z1 42 1 16 39 41,Im 5 42]) .skip))))
 (.rg [zC 43 31 1,Im 31 43])))))))
 (.exit 1))))
 (.rg [Im 16 6,zC 17 16 1,Im 6 17]))))))
 (.seq (.rg [zh 4 false])
 .ret)))))⟩
theorem ck307:za Tryz.prog 307 ir307=true:=by kernel_rfl
def ir308:zf:=⟨22,2,[.t 3],.seq (.rg [zp 2 0,zh 3 false])
 (.seq (.rg [zc 4 3 1,If 5 5 2,Il 6 1 5,Io 7 (.call 309 [(.t 4),(.t 6)]),Im 8 7,Ja 9 8 5 2,Jl 10 8 1 9,Jt 11 8 (.mkfn 311 [] [(.t 1)]),Jt 12 8 (.call 310 [(.t 10),(.t 11)]),Jt 13 8 (.not (.t 12)),zI 14 8 13,Im 15 14,Ja 16 15 3 2,Jl 17 15 1 16,Jt 18 15 (.mkfn 312 [] [(.t 1)]),Jt 19 15 (.call 53 [(.t 17),(.t 18)]),Jt 20 15 (.not (.t 19)),zI 21 15 20,Im 3 21])
 .ret)⟩
theorem ck308:za Tryz.prog 308 ir308=true:=by kernel_rfl
def ir309:zf:=⟨9,2,[.t 4],.seq (.rg [zp 2 0,zh 4 false])
 (.seq (.rg [Im 5 1,Io 6 (.mkfn 417 [] [(.t 2)]),Io 7 (.call 310 [(.t 5),(.t 6)]),zW 8 7,Im 4 8])
 .ret)⟩
theorem ck309:za Tryz.prog 309 ir309=true:=by kernel_rfl
def ir310:zf:=⟨9,2,[.t 4],.seq (.rg [zh 4 false])
 (.seq (.rg [Im 5 0,Im 6 1,Io 7 (.call 418 [(.t 5),(.t 6)]),Io 8 (.bi .geq .i64 (.t 7) (.k (.int .i64 0))),Im 4 8])
 .ret)⟩
theorem ck310:za Tryz.prog 310 ir310=true:=by kernel_rfl
def ir311:zf:=⟨14,2,[.t 3],.seq (.rg [zp 2 0,zh 3 false])
 (.seq (.rg [If 4 4 2,Il 5 1 4,Im 6 5,Jt 7 6 (.ld 3 true (.t 1)),Ja 8 6 1 2,Ja 9 6 0 8,Jl 10 6 1 9,Jt 11 6 (.call 176 [(.t 7),(.t 10)]),Jt 12 6 (.not (.t 11)),zI 13 6 12,Im 3 13])
 .ret)⟩
theorem ck311:za Tryz.prog 311 ir311=true:=by kernel_rfl
def ir312:zf:=⟨9,2,[.t 3],.seq (.rg [zp 2 0,zh 3 false])
 (.seq (.rg [zc 4 3 1,If 5 1 2,Il 6 1 5,Io 7 (.call 309 [(.t 4),(.t 6)]),zW 8 7,Im 3 8])
 .ret)⟩
theorem ck312:za Tryz.prog 312 ir312=true:=by kernel_rfl
def ir314:zf:=⟨13,2,[.t 4],.seq (.rg [Io 4 (.mv (.k (.sl .nil 1 [])))])
 (.seq (.seq (.rg [Im 5 0,Im 6 1,Io 7 (.call 148 [(.t 5),(.t 6)])])
 (.cond (.t 7) (.seq (.rg [Im 8 0,Im 4 8])
 .ret) .skip))
 (.seq (.rg [Im 9 0,Im 10 1,Io 11 (.bls 1 1 [.str []] [(0,(.t 10))]),z1 12 1 16 9 11,Im 4 12])
 .ret))⟩
theorem ck314:za Tryz.prog 314 ir314=true:=by kernel_rfl
def ir315:zf:=⟨19,2,[.t 4],.seq (.rg [zj 4 0])
 (.seq (.seq (.rg [Im 6 0,zD 7 6,zj 8 0])
 (.block 0 (.loop [0,1,7,8] (.seq (.rg [zK 9 8 7])
 (.seq (.cond (.t 9) .skip (.exit 0))
 (.seq (.block 1 (.seq (.rg [Im 10 8,Im 5 10])
 (.seq (.rg [Im 11 1,Im 12 0,Im 13 5,zF 14 5 12 13,zc 15 5 14,Io 16 (.callv (.t 11) [(.t 15)])])
 (.cond (.t 16) (.seq (.rg [Im 17 5,Im 4 17])
 .ret) .skip))))
 (.rg [zC 18 8 1,Im 8 18])))))))
 (.seq (.rg [Io 4 (.mv (.k (.int .i64 (-1))))])
 .ret))⟩
theorem ck315:za Tryz.prog 315 ir315=true:=by kernel_rfl
def ir319:zf:=⟨15,1,[.t 2],.seq (.rg [zj 2 0])
 (.seq (.rg [Im 6 0,Io 7 (.call 274 [(.t 6)]),Im 5 7,zr 8 5 0,zr 9 5 1,Im 3 8,Im 4 9])
 (.seq (.seq (.rg [Im 10 3,Im 11 0,WW 12 11,Io 13 (.bi .neq .i64 (.t 10) (.t 12))])
 (.cond (.t 13) (.seq (.rg [zj 2 0])
 .ret) .skip))
 (.seq (.rg [Im 14 4,Im 2 14])
 .ret)))⟩
theorem ck319:za Tryz.prog 319 ir319=true:=by kernel_rfl
def ir320:zf:=⟨19,1,[.t 2,.t 3],.seq (.rg [zj 2 0,zh 3 false])
 (.seq (.rg [Im 7 0,Io 8 (.call 421 [(.t 7),(.k (.int .i64 10)),(.k (.int .i64 64))]),Im 6 8,zr 9 6 0,zr 10 6 1,Im 4 9,Im 5 10])
 (.seq (.rg [Im 11 4,Im 12 5,Io 13 (.ifnil false (.t 12)),Im 14 13,Jm 15 14 0,Jt 16 14 (.call 319 [(.t 15)]),Jt 17 14 (.bi .eql .i64 (.t 16) (.k (.int .i64 3))),zI 18 14 17,Im 2 11,Im 3 18])
 .ret))⟩
theorem ck320:za Tryz.prog 320 ir320=true:=by kernel_rfl
def ir322:zf:=⟨31,1,[.c 2 7 true],.seq (.rg [Io 2 (.alloc [.int .i64 0,.str [],.str [],.sl .nil 6 [],.sl .nil 2 [],.str [],.sl .nil 7 []])])
 (.seq (.seq (.rg [Im 4 0,Io 5 (.call 155 [(.t 4)]),Io 6 (.fld 0 1 false (.t 5)),zN 7 6 2,Im 8 7,Jm 9 8 0,Jt 10 8 (.call 156 [(.t 9),(.k (.str [111,110]))]),Jt 11 8 (.not (.t 10)),zI 12 8 11])
 (.cond (.t 12) (.seq (.rg [Im 13 0,Io 14 (.call 158 [(.t 13)]),Im 15 0,Io 16 (.call 195 [(.t 15),(.k (.bool false))]),Io 17 (.bld [.int .i64 0,.str [],.str [],.sl .nil 6 [],.sl .nil 2 [],.str [],.sl .nil 7 []] [(0,1,(.k (.int .i64 1))),(2,1,(.t 14)),(4,1,(.t 16))]),⟨none,none,.st 7 (.t 2) (.t 17),[]⟩])
 .ret) .skip))
 (.seq (.rg [Io 18 (.bld [.int .i64 0,.str [],.str [],.sl .nil 6 [],.sl .nil 2 [],.str [],.sl .nil 7 []] [(0,1,(.k (.int .i64 2)))]),Io 3 (.alloc [.int .i64 0,.str [],.str [],.sl .nil 6 [],.sl .nil 2 [],.str [],.sl .nil 7 []]),⟨none,none,.st 7 (.t 3) (.t 18),[]⟩])
 (.seq (.seq (.rg [Im 19 0,Io 20 (.call 101 [(.t 19),(.k (.str [111,110]))])])
 (.cond (.t 20) (.rg [Im 21 0,Io 22 (.call 158 [(.t 21)]),If 23 5 3,⟨none,none,.st 1 (.t 23) (.t 22),[]⟩]) .skip))
 (.seq (.rg [Im 24 0,Io 25 (.call 195 [(.t 24),(.k (.bool false))]),If 26 4 3,⟨none,none,.st 1 (.t 26) (.t 25),[]⟩])
 (.seq (.rg [Im 27 0,Io 28 (.call 119 [(.t 27)]),If 29 6 3,⟨none,none,.st 1 (.t 29) (.t 28),[]⟩])
 (.seq (.rg [zc 30 7 3,⟨none,none,.st 7 (.t 2) (.t 30),[]⟩])
 .ret))))))⟩
theorem ck322:za Tryz.prog 322 ir322=true:=by kernel_rfl
def ir323:zf:=⟨23,2,[.t 4],.seq (.rg [Io 4 (.mv (.k (.sl .nil 6 [])))])
 (.seq (.seq (.rg [Im 6 0,Io 7 (.call 161 [(.t 6),(.k (.str [40]))]),zW 8 7])
 (.cond (.t 8) (.seq (.rg [Io 4 (.mv (.k (.sl .nil 6 [])))])
 .ret) .skip))
 (.seq (.rg [Im 9 0,Im 10 1,Io 11 (.call 423 [(.t 9),(.t 10)]),Io 12 (.bls 6 1 [.str [],.int .i64 0,.int .i64 0,.str [],.sl .nil 5 [],.sl .nil 6 []] [(0,(.t 11))]),Im 5 12])
 (.seq (.block 0 (.loop [0,1,5] (.seq (.seq (.rg [Im 13 0,Io 14 (.call 161 [(.t 13),(.k (.str [41]))]),zW 15 14])
 (.cond (.t 15) .skip (.exit 0)))
 (.block 1 (.rg [Im 16 5,Im 17 0,Im 18 1,Io 19 (.call 423 [(.t 17),(.t 18)]),Io 20 (.bls 6 1 [.str [],.int .i64 0,.int .i64 0,.str [],.sl .nil 5 [],.sl .nil 6 []] [(0,(.t 19))]),z1 21 6 96 16 20,Im 5 21])))))
 (.seq (.rg [Im 22 5,Im 4 22])
 .ret))))⟩
theorem ck323:za Tryz.prog 323 ir323=true:=by kernel_rfl
def ir324:zf:=⟨109,2,[.c 4 5 true],.seq (.rg [Io 4 (.alloc [.int .i64 0,.int .i64 0,.str [],.sl .nil 5 [],.sl .nil 6 []])])
 (.seq (.seq (.rg [Im 10 0,Io 11 (.call 155 [(.t 10)]),Io 5 (.alloc [.int .i64 0,.str []]),⟨none,none,.st 2 (.t 5) (.t 11),[]⟩])
 (.block 0 (.seq (.rg [If 13 0 5,Il 14 1 13,zN 15 14 2,Im 12 15])
 (.cond (.t 12) (.seq (.rg [Im 16 0,zk 17 16,If 18 1 17,Il 19 1 18,zC 20 19 1,zk 21 16,If 22 1 21,⟨none,none,.st 1 (.t 22) (.t 20),[]⟩])
 (.seq (.rg [If 23 1 5,Il 24 1 23,Io 25 (.call 424 [(.t 24)]),⟨none,none,.st 5 (.t 4) (.t 25),[]⟩])
 .ret)) (.seq (.rg [If 27 0 5,Il 28 1 27,zN 29 28 3,Im 30 29,Fa 31 30 0 5,Fl 32 30 1 31,Jf 33 30 (.bi .eql .i64 (.t 32) (.k (.int .i64 4))),ye 34 30 33,Im 26 34])
 (.cond (.t 26) (.seq (.rg [Im 35 0,zk 36 35,If 37 1 36,Il 38 1 37,zC 39 38 1,zk 40 35,If 41 1 40,⟨none,none,.st 1 (.t 41) (.t 39),[]⟩])
 (.seq (.seq (.rg [If 43 1 5,Il 44 1 43,Io 45 (.call 320 [(.t 44)]),Im 42 45,zr 46 42 0,zr 47 42 1,Im 6 46,Im 7 47])
 (.seq (.rg [Im 48 7])
 (.cond (.t 48) (.seq (.rg [Im 49 6,Io 50 (.call 151 [(.t 49)]),⟨none,none,.st 5 (.t 4) (.t 50),[]⟩])
 .ret) .skip)))
 (.seq (.rg [If 51 1 5,Il 52 1 51,Io 53 (.bld [.int .i64 0,.int .i64 0,.str [],.sl .nil 5 [],.sl .nil 6 []] [(0,1,(.k (.int .i64 3))),(2,1,(.t 52))]),⟨none,none,.st 5 (.t 4) (.t 53),[]⟩])
 .ret))) (.seq (.rg [If 55 0 5,Il 56 1 55,zN 57 56 5,Im 54 57])
 (.cond (.t 54) (.seq (.rg [Im 58 0,zk 59 58,If 60 1 59,Il 61 1 60,zC 62 61 1,zk 63 58,If 64 1 63,⟨none,none,.st 1 (.t 64) (.t 62),[]⟩])
 (.seq (.rg [If 65 1 5,Il 66 1 65,Io 67 (.call 15 [(.t 66)]),⟨none,none,.st 5 (.t 4) (.t 67),[]⟩])
 .ret)) (.seq (.rg [Im 69 0,Io 70 (.call 191 [(.t 69),(.k (.str [91]))]),Im 68 70])
 (.cond (.t 68) (.seq (.rg [Io 71 (.bld [.int .i64 0,.int .i64 0,.str [],.sl .nil 5 [],.sl .nil 6 []] [(0,1,(.k (.int .i64 6)))]),Io 8 (.alloc [.int .i64 0,.int .i64 0,.str [],.sl .nil 5 [],.sl .nil 6 []]),⟨none,none,.st 5 (.t 8) (.t 71),[]⟩])
 (.seq (.block 1 (.loop [0,1,4,8] (.seq (.seq (.rg [Im 72 0,Io 73 (.call 193 [(.t 72),(.k (.str [93]))]),zW 74 73])
 (.cond (.t 74) .skip (.exit 1)))
 (.block 2 (.reg [0,1,2,3,4,5,6,7,8] [If 75 3 8,Il 76 1 75,Im 77 0,Im 78 1,⟨some 79,none,.call 324 [(.t 77),(.t 78)],[1]⟩,Io 80 (.bls 5 1 [.int .i64 0,.int .i64 0,.str [],.sl .nil 5 [],.sl .nil 6 []] [(0,(.t 79))]),z1 81 5 80 76 80,If 82 3 8,⟨none,none,.st 1 (.t 82) (.t 81),[]⟩])))))
 (.seq (.rg [zc 83 5 8,⟨none,none,.st 5 (.t 4) (.t 83),[]⟩])
 .ret))) (.seq (.rg [Im 85 0,Io 86 (.call 191 [(.t 85),(.k (.str [123]))]),Im 84 86])
 (.cond (.t 84) (.seq (.rg [Io 87 (.bld [.int .i64 0,.int .i64 0,.str [],.sl .nil 5 [],.sl .nil 6 []] [(0,1,(.k (.int .i64 7)))]),Io 9 (.alloc [.int .i64 0,.int .i64 0,.str [],.sl .nil 5 [],.sl .nil 6 []]),⟨none,none,.st 5 (.t 9) (.t 87),[]⟩])
 (.seq (.block 3 (.loop [0,1,4,9] (.seq (.seq (.rg [Im 88 0,Io 89 (.call 193 [(.t 88),(.k (.str [125]))]),zW 90 89])
 (.cond (.t 90) .skip (.exit 3)))
 (.block 4 (.reg [0,1,2,3,4,5,6,7,8] [If 91 4 9,Il 92 1 91,Im 93 0,Im 94 1,⟨some 95,none,.call 423 [(.t 93),(.t 94)],[1]⟩,Io 96 (.bls 6 1 [.str [],.int .i64 0,.int .i64 0,.str [],.sl .nil 5 [],.sl .nil 6 []] [(0,(.t 95))]),z1 97 6 96 92 96,If 98 4 9,⟨none,none,.st 1 (.t 98) (.t 97),[]⟩])))))
 (.seq (.rg [zc 99 5 9,⟨none,none,.st 5 (.t 4) (.t 99),[]⟩])
 .ret))) (.seq (.rg [Im 101 1,Im 100 101])
 (.cond (.t 100) (.rg [Im 102 0,Io 103 (.call 99 [(.t 102),(.k (.int .i64 2))])]) .skip))))))))))))))
 (.seq (.rg [Im 104 0,Io 105 (.call 157 [(.t 104),(.k (.str [36]))])])
 (.seq (.rg [Im 106 0,Io 107 (.call 158 [(.t 106)]),Io 108 (.bld [.int .i64 0,.int .i64 0,.str [],.sl .nil 5 [],.sl .nil 6 []] [(0,1,(.k (.int .i64 8))),(2,1,(.t 107))]),⟨none,none,.st 5 (.t 4) (.t 108),[]⟩])
 .ret)))⟩
theorem ck324:za Tryz.prog 324 ir324=true:=by kernel_rfl
def ir325:zf:=⟨19,2,[],.seq (.rg [Im 4 0,Im 5 1,Io 6 (.call 374 [(.t 5)]),Io 7 (.call 198 [(.t 4),(.t 6)])])
 (.rg [Im 8 0,Im 9 0,zk 10 9,If 11 0 10,Il 12 1 11,Im 13 1,Io 14 (.bld [.int .i64 0,.str []] [(0,1,(.k (.int .i64 2))),(1,1,(.t 13))]),Io 15 (.bls 2 1 [.int .i64 0,.str []] [(0,(.t 14))]),z1 16 2 24 12 15,zk 17 8,If 18 0 17,⟨none,none,.st 1 (.t 18) (.t 16),[]⟩])⟩
theorem ck325:za Tryz.prog 325 ir325=true:=by kernel_rfl
def ir326:zf:=⟨24,2,[],.seq (.rg [Im 6 1,zD 7 6,zj 8 0])
 (.block 0 (.loop [0,6,7,8] (.seq (.rg [zK 9 8 7])
 (.seq (.cond (.t 9) .skip (.exit 0))
 (.seq (.block 1 (.seq (.rg [zF 10 1 6 8,Il 11 1 10,Im 5 11])
 (.rg [Im 12 0,Im 13 0,zk 14 13,If 15 0 14,Il 16 1 15,Im 17 5,Io 18 (.bld [.int .i64 0,.str []] [(0,1,(.k (.int .i64 1))),(1,1,(.t 17))]),Io 19 (.bls 2 1 [.int .i64 0,.str []] [(0,(.t 18))]),z1 20 2 24 16 19,zk 21 12,If 22 0 21,⟨none,none,.st 1 (.t 22) (.t 20),[]⟩])))
 (.rg [zC 23 8 1,Im 8 23]))))))⟩
theorem ck326:za Tryz.prog 326 ir326=true:=by kernel_rfl
def ir327:zf:=⟨48,2,[],.seq (.rg [zp 3 1])
 (.seq (.rg [Im 5 0,zc 6 3 3,Io 7 (.call 370 [(.t 6)]),Io 8 (.call 198 [(.t 5),(.t 7)])])
 (.seq (.seq (.rg [Im 9 0,zk 10 9,If 11 1 10,Il 12 1 11,zW 13 12])
 (.cond (.t 13) .ret .skip))
 (.seq (.seq (.rg [If 14 1 3,Il 15 1 14,zj 16 0])
 (.block 0 (.loop [0,3,15,16] (.seq (.rg [zK 17 16 15])
 (.seq (.cond (.t 17) .skip (.exit 0))
 (.seq (.block 1 (.rg [Im 18 0,Io 19 (.bls 1 1 [.str []] [(0,(.k (.str [91])))]),Io 20 (.call 326 [(.t 18),(.t 19)])]))
 (.rg [zC 21 16 1,Im 16 21])))))))
 (.seq (.rg [Im 22 0,If 23 0 3,Il 24 1 23,Io 25 (.call 325 [(.t 22),(.t 24)])])
 (.seq (.rg [If 26 1 3,Il 27 1 26,Im 4 27])
 (.block 2 (.loop [0,3,4] (.seq (.seq (.rg [Im 28 4,Io 29 (.bi .geq .i64 (.t 28) (.k (.int .i64 0)))])
 (.cond (.t 29) .skip (.exit 2)))
 (.seq (.block 3 (.seq (.seq (.rg [Im 32 4,If 33 1 3,Il 34 1 33,zK 35 32 34])
 (.cond (.t 35) (.rg [Im 36 0,Io 37 (.bls 1 1 [.str []] [(0,(.k (.str [93])))]),Io 38 (.call 326 [(.t 36),(.t 37)])]) .skip))
 (.seq (.rg [If 39 2 3,Il 40 1 39,Im 41 4,Io 42 (.shf .shr (.t 40) (.t 41)),Io 43 (.bi .and .i64 (.t 42) (.k (.int .i64 1))),zN 44 43 1])
 (.cond (.t 44) (.rg [Im 45 0,Io 46 (.bls 1 1 [.str []] [(0,(.k (.str [33])))]),Io 47 (.call 326 [(.t 45),(.t 46)])]) .skip))))
 (.rg [Im 30 4,VA 31 30 1,Im 4 31]))))))))))⟩
theorem ck327:za Tryz.prog 327 ir327=true:=by kernel_rfl
def ir328:zf:=⟨19,3,[],.seq (.rg [zp 5 2])
 (.seq (.seq (.rg [Im 6 1,zW 7 6])
 (.cond (.t 7) (.seq (.rg [Im 8 0,zc 9 5 5,Io 10 (.bld [.int .i64 0,.int .i64 0,.str [],.sl .nil 5 [],.sl .nil 6 []] []),Io 11 (.call 425 [(.t 9),(.t 10)]),Io 12 (.call 198 [(.t 8),(.t 11)])])
 .ret) .skip))
 (.seq (.rg [Im 13 0,Io 14 (.bls 1 1 [.str []] [(0,(.k (.str [61])))]),Io 15 (.call 326 [(.t 13),(.t 14)])])
 (.rg [Im 16 0,zc 17 5 5,Io 18 (.call 426 [(.t 16),(.t 17),(.k (.bool true))])])))⟩
theorem ck328:za Tryz.prog 328 ir328=true:=by kernel_rfl
def ir329:zf:=⟨27,3,[],.seq (.rg [Im 8 2,zD 9 8,zj 10 0])
 (.block 0 (.loop [0,1,8,9,10] (.seq (.rg [zK 11 10 9])
 (.seq (.cond (.t 11) .skip (.exit 0))
 (.seq (.block 1 (.seq (.rg [zF 12 2 8 10,zc 13 2 12,Io 7 (.alloc [.str [],.sl .nil 6 []]),⟨none,none,.st 2 (.t 7) (.t 13),[]⟩])
 (.seq (.rg [Im 14 0,Io 15 (.bls 1 1 [.str []] [(0,(.k (.str [64])))]),Io 16 (.call 326 [(.t 14),(.t 15)])])
 (.seq (.rg [Im 17 0,If 18 0 7,Il 19 1 18,Io 20 (.call 325 [(.t 17),(.t 19)])])
 (.rg [Im 21 0,Im 22 1,If 23 1 7,Il 24 1 23,Io 25 (.call 427 [(.t 21),(.t 22),(.t 24)])])))))
 (.rg [zC 26 10 1,Im 10 26]))))))⟩
theorem ck329:za Tryz.prog 329 ir329=true:=by kernel_rfl
def ir330:zf:=⟨27,2,[],.seq (.rg [Im 4 0,Io 5 (.bls 1 1 [.str []] [(0,(.k (.str [123])))]),Io 6 (.call 326 [(.t 4),(.t 5)])])
 (.seq (.rg [Im 7 0,zk 8 7,If 9 2 8,Il 10 1 9,zC 11 10 1,zk 12 7,If 13 2 12,⟨none,none,.st 1 (.t 13) (.t 11),[]⟩])
 (.seq (.rg [Im 14 0,Im 15 1,Io 16 (.call 428 [(.t 14),(.t 15)])])
 (.seq (.rg [Im 17 0,zk 18 17,If 19 2 18,Il 20 1 19,VA 21 20 1,zk 22 17,If 23 2 22,⟨none,none,.st 1 (.t 23) (.t 21),[]⟩])
 (.rg [Im 24 0,Io 25 (.bls 1 1 [.str []] [(0,(.k (.str [125])))]),Io 26 (.call 326 [(.t 24),(.t 25)])]))))⟩
theorem ck330:za Tryz.prog 330 ir330=true:=by kernel_rfl
def ir332:zf:=⟨9,2,[.t 4],.seq (.rg [zh 4 false])
 (.seq (.rg [Im 5 0,Im 6 1,Io 7 (.call 429 [(.t 5),(.t 6)]),Io 8 (.bi .geq .i64 (.t 7) (.k (.int .i64 0))),Im 4 8])
 .ret)⟩
theorem ck332:za Tryz.prog 332 ir332=true:=by kernel_rfl
def ir340:zf:=⟨51,3,[.c 6 6 true,.t 7],.seq (.rg [zp 3 0,zp 5 2,Io 6 (.alloc [.str [],.sl .nil 10 [],.str [],.int .i64 0,.int .i64 0,.sl .nil 2 []]),zh 7 false])
 (.seq (.seq (.rg [Il 11 1 5,Io 12 (.bs .eql (.t 11) (.k (.str [95,95,116,121,112,101,110,97,109,101]))),Im 13 12,Jt 14 13 (.ld 3 true (.t 3)),Jm 15 13 1,Jt 16 13 (.call 177 [(.t 14),(.t 15)]),zI 17 13 16])
 (.cond (.t 17) (.seq (.rg [Io 18 (.bld [.str [],.int .i64 0,.int .i64 0] [(0,1,(.k (.str [83,116,114,105,110,103]))),(2,1,(.k (.int .i64 1)))]),Io 19 (.bld [.str [],.sl .nil 10 [],.str [],.int .i64 0,.int .i64 0,.sl .nil 2 []] [(0,1,(.k (.str [95,95,116,121,112,101,110,97,109,101]))),(2,3,(.t 18))]),⟨none,none,.st 6 (.t 6) (.t 19),[]⟩,zh 7 true])
 .ret) .skip))
 (.seq (.rg [zc 21 3 3,Im 22 1,Io 23 (.call 299 [(.t 21),(.t 22)]),Im 20 23,zr 24 20 0,zr 25 20 1,Io 8 (.alloc [.int .i64 0,.str [],.sl .nil 1 [],.sl .nil 6 [],.sl .nil 1 [],.sl .nil 10 []]),⟨none,none,.st 6 (.t 8) (.t 24),[]⟩,Im 9 25])
 (.seq (.seq (.rg [Im 26 9,zW 27 26,Im 28 27,Fa 29 28 0 8,Fl 30 28 1 29,Jf 31 28 (.bi .neq .i64 (.t 30) (.k (.int .i64 1))),Fm 32 28 31,Ja 33 32 0 8,Jl 34 32 1 33,Jt 35 32 (.bi .neq .i64 (.t 34) (.k (.int .i64 2))),Jf 36 28 (.pick (.t 32) (.t 35) (.k (.bool false))),ye 37 28 36])
 (.cond (.t 37) (.seq (.rg [Io 38 (.bld [.str [],.sl .nil 10 [],.str [],.int .i64 0,.int .i64 0,.sl .nil 2 []] []),⟨none,none,.st 6 (.t 6) (.t 38),[]⟩,zh 7 false])
 .ret) .skip))
 (.seq (.rg [If 39 3 8,Il 40 1 39,Io 41 (.mkfn 432 [] [(.t 5)]),Io 42 (.call 109 [(.t 40),(.t 41)]),Im 10 42])
 (.seq (.seq (.rg [Im 43 10,Io 44 (.bi .lss .i64 (.t 43) (.k (.int .i64 0)))])
 (.cond (.t 44) (.seq (.rg [Io 45 (.bld [.str [],.sl .nil 10 [],.str [],.int .i64 0,.int .i64 0,.sl .nil 2 []] []),⟨none,none,.st 6 (.t 6) (.t 45),[]⟩,zh 7 false])
 .ret) .skip))
 (.seq (.rg [If 46 3 8,Il 47 1 46,Im 48 10,zF 49 6 47 48,zc 50 6 49,⟨none,none,.st 6 (.t 6) (.t 50),[]⟩,zh 7 true])
 .ret))))))⟩
theorem ck340:za Tryz.prog 340 ir340=true:=by kernel_rfl
def ir342:zf:=⟨36,3,[.t 6],.seq (.rg [zp 3 0,zh 6 false])
 (.scope (.seq (.rg [zc 13 3 3,Im 14 2,Io 15 (.call 178 [(.t 13),(.t 14)]),Im 7 15])
 (.seq (.rg [zh 8 false])
 (.seq .skip
 (.seq (.seq (.rg [zc 16 3 3,Im 17 1,Io 18 (.call 178 [(.t 16),(.t 17)]),zD 19 18,zj 20 0])
 (.block 0 (.loop [7,8,18,19,20] (.seq (.rg [zK 21 20 19])
 (.seq (.cond (.t 21) .skip (.exit 0))
 (.seq (.block 1 (.seq (.rg [zF 22 1 18 20,Il 23 1 22,Im 10 23])
 (.seq (.rg [Im 24 7,zD 25 24,zj 26 0])
 (.block 2 (.loop [7,8,10,18,19,20,24,25,26] (.seq (.rg [zK 27 26 25])
 (.seq (.cond (.t 27) .skip (.exit 2))
 (.seq (.block 3 (.seq (.rg [zF 28 1 24 26,Il 29 1 28,Im 12 29])
 (.seq (.rg [Im 30 10,Im 31 12,Io 32 (.bs .eql (.t 30) (.t 31))])
 (.cond (.t 32) (.seq (.rg [zh 8 true])
 (.exit 0)) .skip))))
 (.rg [zC 33 26 1,Im 26 33])))))))))
 (.rg [zC 34 20 1,Im 20 34])))))))
 (.seq (.rg [Im 35 8,Im 6 35])
 .ret))))))⟩
theorem ck342:za Tryz.prog 342 ir342=true:=by kernel_rfl
def ir351:zf:=⟨9,2,[.t 4],.seq (.rg [zh 4 false])
 (.seq (.rg [Im 5 0,Im 6 1,Io 7 (.call 434 [(.t 5),(.t 6)]),Io 8 (.bi .geq .i64 (.t 7) (.k (.int .i64 0))),Im 4 8])
 .ret)⟩
theorem ck351:za Tryz.prog 351 ir351=true:=by kernel_rfl
def ir353:zf:=⟨9,2,[.t 4],.seq (.rg [zp 2 0,zh 4 false])
 (.seq (.rg [zc 5 3 2,Im 6 1,Io 7 (.bls 1 3 [.int .i64 0] [(0,(.k (.int .i64 0))),(1,(.k (.int .i64 4))),(2,(.k (.int .i64 5)))]),Io 8 (.call 285 [(.t 5),(.t 6),(.t 7)]),Im 4 8])
 .ret)⟩
theorem ck353:za Tryz.prog 353 ir353=true:=by kernel_rfl
def ir370:zf:=⟨30,1,[.t 2],.seq (.rg [zp 1 0,zh 2 false])
 (.seq (.rg [If 3 0 1,Il 4 1 3,Io 5 (.call 374 [(.t 4)]),Im 6 5,Ja 7 6 1 1,Jl 8 6 1 7,Jt 9 6 (.bi .geq .i64 (.t 8) (.k (.int .i64 0))),zI 10 6 9,Im 11 10,Ja 12 11 1 1,Jl 13 11 1 12,Jt 14 11 (.bi .leq .i64 (.t 13) (.k (.int .i64 4))),zI 15 11 14,Im 16 15,Ja 17 16 2 1,Jl 18 16 1 17,Jt 19 16 (.bi .geq .i64 (.t 18) (.k (.int .i64 0))),zI 20 16 19,Im 21 20,Ja 22 21 2 1,Jl 23 21 1 22,Ja 24 21 1 1,Jl 25 21 1 24,Jt 26 21 (.bi .add .i64 (.t 25) (.k (.int .i64 1))),Jt 27 21 (.shf .shr (.t 23) (.t 26)),Jt 28 21 (.bi .eql .i64 (.t 27) (.k (.int .i64 0))),zI 29 21 28,Im 2 29])
 .ret)⟩
theorem ck370:za Tryz.prog 370 ir370=true:=by kernel_rfl
def ir372:zf:=⟨11,2,[.t 4],.seq (.rg [zp 2 0,zh 4 false])
 (.seq (.rg [If 5 2 2,Il 6 1 5,Im 7 1,Io 8 (.shf .shr (.t 6) (.t 7)),Io 9 (.bi .and .i64 (.t 8) (.k (.int .i64 1))),zN 10 9 1,Im 4 10])
 .ret)⟩
theorem ck372:za Tryz.prog 372 ir372=true:=by kernel_rfl
def ir373:zf:=⟨23,1,[.t 2],.seq (.rg [zh 2 false])
 (.seq (.rg [Im 6 0,Io 7 (.call 319 [(.t 6)]),Im 3 7])
 (.seq (.rg [Im 9 0,Io 10 (.call 320 [(.t 9)]),Im 8 10,zr 11 8 0,zr 12 8 1,Im 4 11,Im 5 12])
 (.seq (.rg [Im 13 3,zN 14 13 4,Im 15 14,Fm 16 15 3,Jf 17 15 (.bi .eql .i64 (.t 16) (.k (.int .i64 3))),Fm 18 15 17,Jm 19 18 5,Jt 20 18 (.not (.t 19)),Jf 21 15 (.pick (.t 18) (.t 20) (.k (.bool false))),ye 22 15 21,Im 2 22])
 .ret)))⟩
theorem ck373:za Tryz.prog 373 ir373=true:=by kernel_rfl
def ir374:zf:=⟨28,1,[.t 2],.seq (.rg [zh 2 false])
 (.seq (.seq (.rg [Im 4 0,WW 5 4,zj 6 0])
 (.block 0 (.loop [0,5,6] (.seq (.rg [zK 7 6 5])
 (.seq (.cond (.t 7) .skip (.exit 0))
 (.seq (.block 1 (.seq (.rg [Im 8 6,Im 3 8])
 (.seq (.rg [Im 9 0,Im 10 3,Io 11 (.ixs (.t 9) (.t 10)),Io 12 (.call 272 [(.t 11)]),zW 13 12,Im 14 13,Jm 15 14 3,Jt 16 14 (.bi .eql .i64 (.t 15) (.k (.int .i64 0))),Jm 17 14 16,Fm 18 17 0,Fm 19 17 3,Jf 20 17 (.ixs (.t 18) (.t 19)),Jf 21 17 (.call 275 [(.t 20)]),Jf 22 17 (.not (.t 21)),Jt 23 14 (.pick (.t 17) (.k (.bool true)) (.t 22)),zI 24 14 23])
 (.cond (.t 24) (.seq (.rg [zh 2 false])
 .ret) .skip))))
 (.rg [zC 25 6 1,Im 6 25])))))))
 (.seq (.rg [Im 26 0,Io 27 (.bs .neq (.t 26) (.k (.str []))),Im 2 27])
 .ret))⟩
theorem ck374:za Tryz.prog 374 ir374=true:=by kernel_rfl
def ir375:zf:=⟨13,1,[.t 2],.seq (.rg [zh 2 false])
 (.seq (.rg [Im 3 0,Io 4 (.bs .eql (.t 3) (.k (.str [116,114,117,101]))),Im 5 4,Fm 6 5 0,Jf 7 5 (.bs .eql (.t 6) (.k (.str [102,97,108,115,101]))),ye 8 5 7,Im 9 8,Fm 10 9 0,Jf 11 9 (.bs .eql (.t 10) (.k (.str [110,117,108,108]))),ye 12 9 11,Im 2 12])
 .ret)⟩
theorem ck375:za Tryz.prog 375 ir375=true:=by kernel_rfl
def ir382:zf:=⟨9,2,[.t 4],.seq (.rg [zp 2 0,zp 3 1,Io 4 (.mv (.k (.oth .nilFunc)))])
 (.seq (.seq (.rg [Il 5 1 3,Io 6 (.bi .lss .i64 (.t 5) (.k (.int .i64 1)))])
 (.cond (.t 6) (.rg [Io 7 (.mki 9 (.k (.str [99,97,110,110,111,116,32,98,101,32,108,101,115,115,32,116,104,97,110,32,49]))),⟨none,none,.pan (.t 7),[]⟩]) .skip))
 (.seq (.rg [Io 8 (.mkfn 462 [] [(.t 2),(.t 3)]),Im 4 8])
 .ret))⟩
theorem ck382:za Tryz.prog 382 ir382=true:=by kernel_rfl
def ir386:zf:=⟨63,3,[],.seq (.rg [zj 6 20])
 (.seq (.rg [Im 10 6,zj 7 0,Im 8 10])
 (.seq (.block 0 (.loop [0,1,2,6,7,8] (.seq (.seq (.rg [Im 11 8,Im 12 1,Io 13 (.bi .leq .i64 (.t 11) (.t 12))])
 (.cond (.t 13) .skip (.exit 0)))
 (.block 1 (.seq (.rg [Im 14 0,Im 15 7,Im 16 8,Im 17 2,Io 18 (.call 466 [(.t 14),(.t 15),(.t 16),(.t 17)])])
 (.seq (.rg [Im 19 8,Im 7 19])
 (.rg [Im 20 8,Im 21 6,XM 22 20 21,Im 8 22])))))))
 (.seq (.rg [Im 23 0,Im 24 7,Im 25 1,Im 26 2,Io 27 (.call 466 [(.t 23),(.t 24),(.t 25),(.t 26)])])
 (.block 2 (.loop [0,1,2,6] (.seq (.seq (.rg [Im 28 6,Im 29 1,zK 30 28 29])
 (.cond (.t 30) .skip (.exit 2)))
 (.block 3 (.seq (.rg [Im 31 6,Io 32 (.bi .mul .i64 (.k (.int .i64 2)) (.t 31)),zj 7 0,Im 8 32])
 (.seq (.block 4 (.loop [0,1,2,6,7,8] (.seq (.seq (.rg [Im 33 8,Im 34 1,Io 35 (.bi .leq .i64 (.t 33) (.t 34))])
 (.cond (.t 35) .skip (.exit 4)))
 (.block 5 (.seq (.rg [Im 36 0,Im 37 7,Im 38 7,Im 39 6,XM 40 38 39,Im 41 8,Im 42 2,Io 43 (.call 467 [(.t 36),(.t 37),(.t 40),(.t 41),(.t 42)])])
 (.seq (.rg [Im 44 8,Im 7 44])
 (.rg [Im 45 8,Im 46 6,Io 47 (.bi .mul .i64 (.k (.int .i64 2)) (.t 46)),XM 48 45 47,Im 8 48])))))))
 (.seq (.seq (.rg [Im 49 7,Im 50 6,XM 51 49 50,Im 9 51])
 (.seq (.rg [Im 52 9,Im 53 1,zK 54 52 53])
 (.cond (.t 54) (.rg [Im 55 0,Im 56 7,Im 57 9,Im 58 1,Im 59 2,Io 60 (.call 467 [(.t 55),(.t 56),(.t 57),(.t 58),(.t 59)])]) .skip)))
 (.rg [Im 61 6,Io 62 (.bi .mul .i64 (.t 61) (.k (.int .i64 2))),Im 6 62])))))))))))⟩
theorem ck386:za Tryz.prog 386 ir386=true:=by kernel_rfl
def ir387:zf:=⟨20,2,[.t 4],.seq (.rg [zj 4 0])
 (.seq (.rg [Im 7 0,Io 8 (.call 468 [(.t 7)]),Im 5 8])
 (.seq (.rg [Im 9 1,Io 10 (.call 468 [(.t 9)]),Im 6 10])
 (.seq (.seq (.rg [Im 11 5])
 (.cond (.t 11) (.seq (.seq (.rg [Im 12 6])
 (.cond (.t 12) (.seq (.rg [zj 4 0])
 .ret) .skip))
 (.seq (.rg [Io 4 (.mv (.k (.int .i64 (-1))))])
 .ret)) .skip))
 (.seq (.seq (.rg [Im 13 6])
 (.cond (.t 13) (.seq (.rg [zj 4 1])
 .ret) .skip))
 (.seq (.seq (.rg [Im 14 0,Im 15 1,zK 16 14 15])
 (.cond (.t 16) (.seq (.rg [Io 4 (.mv (.k (.int .i64 (-1))))])
 .ret) .skip))
 (.seq (.seq (.rg [Im 17 0,Im 18 1,Io 19 (.bi .gtr .i64 (.t 17) (.t 18))])
 (.cond (.t 19) (.seq (.rg [zj 4 1])
 .ret) .skip))
 (.seq (.rg [zj 4 0])
 .ret)))))))⟩
theorem ck387:za Tryz.prog 387 ir387=true:=by kernel_rfl
def ir388:zf:=⟨20,2,[.t 4],.seq (.rg [zj 4 0])
 (.seq (.rg [Im 7 0,Io 8 (.call 469 [(.t 7)]),Im 5 8])
 (.seq (.rg [Im 9 1,Io 10 (.call 469 [(.t 9)]),Im 6 10])
 (.seq (.seq (.rg [Im 11 5])
 (.cond (.t 11) (.seq (.seq (.rg [Im 12 6])
 (.cond (.t 12) (.seq (.rg [zj 4 0])
 .ret) .skip))
 (.seq (.rg [Io 4 (.mv (.k (.int .i64 (-1))))])
 .ret)) .skip))
 (.seq (.seq (.rg [Im 13 6])
 (.cond (.t 13) (.seq (.rg [zj 4 1])
 .ret) .skip))
 (.seq (.seq (.rg [Im 14 0,Im 15 1,Io 16 (.bs .lss (.t 14) (.t 15))])
 (.cond (.t 16) (.seq (.rg [Io 4 (.mv (.k (.int .i64 (-1))))])
 .ret) .skip))
 (.seq (.seq (.rg [Im 17 0,Im 18 1,Io 19 (.bs .gtr (.t 17) (.t 18))])
 (.cond (.t 19) (.seq (.rg [zj 4 1])
 .ret) .skip))
 (.seq (.rg [zj 4 0])
 .ret)))))))⟩
theorem ck388:za Tryz.prog 388 ir388=true:=by kernel_rfl
def ir400:zf:=⟨63,1,[.t 2],.seq (.rg [Io 2 (.mv (.k (.str [])))])
 (.seq (.rg [Im 6 0,Io 7 (.call 477 [(.t 6)]),Im 3 7])
 (.seq (.seq (.rg [Im 8 3,Io 9 (.call 478 [(.t 8)]),Im 4 9])
 (.seq (.rg [Im 10 4,YV 11 10 0])
 (.cond (.t 11) (.seq (.rg [zj 5 1])
 (.block 0 (.loop [3,4,5] (.seq (.seq (.rg [Im 12 5,Im 13 3,zD 14 13,zK 15 12 14])
 (.cond (.t 15) .skip (.exit 0)))
 (.seq (.block 1 (.reg [0,1,2,3,4,5,6,7,8,9,10,11,12,13,14,15] [Im 18 3,Im 19 5,Im 20 3,Im 21 5,zF 22 1 20 21,Il 23 1 22,Im 24 4,Im 25 3,Im 26 5,zF 27 1 25 26,Il 28 1 27,WW 29 28,Io 30 (.mm false (.t 24) [(.t 29)]),Io 31 (.sls (.t 23) (some (.t 30)) none),zF 32 1 18 19,⟨none,none,.st 1 (.t 32) (.t 31),[]⟩]))
 (.rg [Im 16 5,zC 17 16 1,Im 5 17])))))) .skip)))
 (.seq (.block 2 (.loop [3] (.seq (.seq (.rg [Im 33 3,zD 34 33,YV 35 34 0,Im 36 35,Jm 37 36 3,Jt 38 36 (.ia 1 (.t 37) (.k (.int .i64 0))),Jl 39 36 1 38,Jt 40 36 (.call 479 [(.t 39)]),zI 41 36 40])
 (.cond (.t 41) .skip (.exit 2)))
 (.block 3 (.rg [Im 42 3,Io 43 (.sll 1 (.t 42) (some (.k (.int .i64 1))) none none),Im 3 43])))))
 (.seq (.block 4 (.loop [3] (.seq (.seq (.rg [Im 44 3,zD 45 44,YV 46 45 0,Im 47 46,Jm 48 47 3,Jm 49 47 3,Jt 50 47 (.len (.t 49)),Jt 51 47 (.bi .sub .i64 (.t 50) (.k (.int .i64 1))),Jt 52 47 (.ia 1 (.t 48) (.t 51)),Jl 53 47 1 52,Jt 54 47 (.call 479 [(.t 53)]),zI 55 47 54])
 (.cond (.t 55) .skip (.exit 4)))
 (.block 5 (.rg [Im 56 3,Im 57 3,zD 58 57,VA 59 58 1,Io 60 (.sll 1 (.t 56) none (some (.t 59)) none),Im 3 60])))))
 (.seq (.rg [Io 61 (.frz 1 (.t 3)),Io 62 (.call 480 [(.t 61),(.k (.str [10]))]),Im 2 62])
 .ret)))))⟩
theorem ck400:za Tryz.prog 400 ir400=true:=by kernel_rfl
def ir401:zf:=⟨48,2,[.t 4],.seq (.rg [zj 4 0])
 (.seq (.seq (.rg [Im 8 1,Io 9 (.call 267 [(.t 8),(.k (.str [117]))])])
 (.cond (.t 9) (.seq (.rg [Im 11 1,Io 12 (.sls (.t 11) (some (.k (.int .i64 1))) none),Io 13 (.call 481 [(.t 12)]),Im 10 13,zr 14 10 0,zr 15 10 1,Im 5 14,Im 6 15])
 (.seq (.seq (.rg [Im 16 6,zW 17 16])
 (.cond (.t 17) (.seq (.rg [zj 4 0])
 .ret) .skip))
 (.seq (.rg [Im 18 0,Im 19 0,zk 20 19,If 21 1 20,Il 22 1 21,Im 23 5,Io 24 (.bls 1 1 [.int .i64 0] [(0,(.t 23))]),z1 25 1 8 22 24,zk 26 18,If 27 1 26,⟨none,none,.st 1 (.t 27) (.t 25),[]⟩])
 (.seq (.rg [zj 4 5])
 .ret)))) .skip))
 (.seq (.seq (.rg [Im 28 1,Io 29 (.bs .eql (.t 28) (.k (.str [])))])
 (.cond (.t 29) (.seq (.rg [zj 4 0])
 .ret) .skip))
 (.seq (.rg [Im 30 1,Io 31 (.ixs (.t 30) (.k (.int .i64 0))),Io 32 (.call 190 [(.k (.str [34,92,47,98,102,110,114,116])),(.t 31)]),Im 7 32])
 (.seq (.seq (.rg [Im 33 7,Io 34 (.bi .lss .i64 (.t 33) (.k (.int .i64 0)))])
 (.cond (.t 34) (.seq (.rg [zj 4 0])
 .ret) .skip))
 (.seq (.rg [Im 35 0,Io 36 (.call 402 [(.t 35)])])
 (.seq (.reg [0,1,2,3,4,5,6,7,8,9,10,11] [Im 37 0,Im 38 0,zk 39 38,If 40 0 39,Il 41 1 40,Im 42 7,Io 43 (.ixs (.k (.str [34,92,47,8,12,10,13,9])) (.t 42)),Io 44 (.bls 1 1 [.int .u8 0] [(0,(.t 43))]),z1 45 1 1 41 44,zk 46 37,If 47 0 46,⟨none,none,.st 1 (.t 47) (.t 45),[]⟩])
 (.seq (.rg [zj 4 1])
 .ret)))))))⟩
theorem ck401:za Tryz.prog 401 ir401=true:=by kernel_rfl
def ir402:zf:=⟨34,1,[],.seq (.rg [Im 5 0,zk 6 5,If 7 1 6,Il 8 1 7,Io 9 (.call 482 [(.t 8)]),Im 4 9,zr 10 4 0,zr 11 4 1,Im 2 10,Im 3 11])
 (.reg [0,1,2,3,4,5,6,7,9,10,11,12,8,13,14,15,16,17,18,19,20,21,22,23,24] [Im 12 0,Im 13 0,Im 14 0,Im 15 0,zk 16 15,If 17 0 16,Il 18 1 17,Im 19 2,Im 21 0,zk 22 21,If 23 2 22,Il 24 1 23,⟨some 20,none,.apps (.t 18) (.t 19),[11]⟩,Im 25 24,Jm 26 25 3,zI 27 25 26,zk 28 12,If 29 0 28,⟨none,none,.st 1 (.t 29) (.t 20),[]⟩,zk 30 13,If 31 1 30,⟨none,none,.st 1 (.t 31) (.k (.sl .nil 1 [])),[]⟩,zk 32 14,If 33 2 32,⟨none,none,.st 1 (.t 33) (.t 27),[]⟩])⟩
theorem ck402:za Tryz.prog 402 ir402=true:=by kernel_rfl
def ir403:zf:=⟨24,1,[.t 2],.seq (.rg [zj 2 0])
 (.seq (.rg [zj 3 0])
 (.seq (.seq (.rg [Im 5 0,Io 6 (.call 267 [(.t 5),(.k (.str [45]))])])
 (.cond (.t 6) (.rg [zj 3 1]) .skip))
 (.seq (.rg [Im 7 0,Im 8 3,Io 9 (.sls (.t 7) (some (.t 8)) none),Io 10 (.call 404 [(.t 9)]),Im 4 10])
 (.seq (.block 0 (.seq (.rg [Im 12 4,zN 13 12 0,Im 11 13])
 (.cond (.t 11) (.seq (.rg [zj 2 0])
 .ret) (.seq (.rg [Im 15 0,Im 16 3,Io 17 (.ixs (.t 15) (.t 16)),Io 18 (.bi .eql .u8 (.t 17) (.k (.int .u8 48))),Im 14 18])
 (.cond (.t 14) (.seq (.rg [Im 19 3,zC 20 19 1,Im 2 20])
 .ret) .skip)))))
 (.seq (.rg [Im 21 3,Im 22 4,XM 23 21 22,Im 2 23])
 .ret)))))⟩
theorem ck403:za Tryz.prog 403 ir403=true:=by kernel_rfl
def ir404:zf:=⟨17,1,[.t 2],.seq (.rg [zj 2 0])
 (.seq (.rg [zj 3 0])
 (.seq (.block 0 (.loop [0,3] (.seq (.seq (.rg [Im 4 3,Im 5 0,WW 6 5,zK 7 4 6,Im 8 7,Jm 9 8 0,Jm 10 8 3,Jt 11 8 (.ixs (.t 9) (.t 10)),Jt 12 8 (.call 275 [(.t 11)]),zI 13 8 12])
 (.cond (.t 13) .skip (.exit 0)))
 (.block 1 (.rg [Im 14 3,zC 15 14 1,Im 3 15])))))
 (.seq (.rg [Im 16 3,Im 2 16])
 .ret)))⟩
theorem ck404:za Tryz.prog 404 ir404=true:=by kernel_rfl
def ir405:zf:=⟨39,1,[.t 2],.seq (.rg [zj 2 0])
 (.seq (.seq (.rg [Im 5 0,Io 6 (.bs .eql (.t 5) (.k (.str []))),Im 7 6,Fm 8 7 0,Jf 9 7 (.ixs (.t 8) (.k (.int .i64 0))),Jf 10 7 (.bi .neq .u8 (.t 9) (.k (.int .u8 101))),Fm 11 7 10,Jm 12 11 0,Jt 13 11 (.ixs (.t 12) (.k (.int .i64 0))),Jt 14 11 (.bi .neq .u8 (.t 13) (.k (.int .u8 69))),Jf 15 7 (.pick (.t 11) (.t 14) (.k (.bool false))),ye 16 7 15])
 (.cond (.t 16) (.seq (.rg [zj 2 0])
 .ret) .skip))
 (.seq (.rg [zj 3 1])
 (.seq (.seq (.rg [Im 17 0,WW 18 17,YV 19 18 1,Im 20 19,Jm 21 20 0,Jt 22 20 (.ixs (.t 21) (.k (.int .i64 1))),Jt 23 20 (.bi .eql .u8 (.t 22) (.k (.int .u8 43))),Jm 24 20 23,Fm 25 24 0,Jf 26 24 (.ixs (.t 25) (.k (.int .i64 1))),Jf 27 24 (.bi .eql .u8 (.t 26) (.k (.int .u8 45))),Jt 28 20 (.pick (.t 24) (.k (.bool true)) (.t 27)),zI 29 20 28])
 (.cond (.t 29) (.rg [zj 3 2]) .skip))
 (.seq (.rg [Im 30 0,Im 31 3,Io 32 (.sls (.t 30) (some (.t 31)) none),Io 33 (.call 404 [(.t 32)]),Im 4 33])
 (.seq (.seq (.rg [Im 34 4,zN 35 34 0])
 (.cond (.t 35) (.seq (.rg [zj 2 0])
 .ret) .skip))
 (.seq (.rg [Im 36 3,Im 37 4,XM 38 36 37,Im 2 38])
 .ret))))))⟩
theorem ck405:za Tryz.prog 405 ir405=true:=by kernel_rfl
def ir406:zf:=⟨68,1,[.t 2,.t 3],.seq (.rg [zp 1 0,Io 2 (.mv (.k (.sl .nil 2 []))),zh 3 false])
 (.seq (.rg [Io 7 (.call 197 []),Io 8 (.bld [.nilp] [(0,1,(.t 7))]),Io 4 (.alloc [.nilp]),⟨none,none,.st 1 (.t 4) (.t 8),[]⟩])
 (.seq (.rg [If 9 0 4,Il 10 1 9,Io 11 (.call 325 [(.t 10),(.k (.str [115,99,104,101,109,97]))])])
 (.seq (.rg [If 12 0 4,Il 13 1 12,Io 14 (.bls 1 1 [.str []] [(0,(.k (.str [123])))]),Io 15 (.call 326 [(.t 13),(.t 14)])])
 (.seq (.rg [If 16 0 4,Il 17 1 16,Io 18 (.call 325 [(.t 17),(.k (.str [113,117,101,114,121]))])])
 (.seq (.rg [If 19 0 4,Il 20 1 19,Io 21 (.bls 1 1 [.str []] [(0,(.k (.str [58])))]),Io 22 (.call 326 [(.t 20),(.t 21)])])
 (.seq (.rg [If 23 0 4,Il 24 1 23,If 25 1 1,Il 26 1 25,Io 27 (.call 325 [(.t 24),(.t 26)])])
 (.seq (.seq (.rg [If 28 2 1,Il 29 1 28,Io 30 (.bs .neq (.t 29) (.k (.str [])))])
 (.cond (.t 30) (.seq (.rg [If 31 0 4,Il 32 1 31,Io 33 (.call 325 [(.t 32),(.k (.str [109,117,116,97,116,105,111,110]))])])
 (.seq (.rg [If 34 0 4,Il 35 1 34,Io 36 (.bls 1 1 [.str []] [(0,(.k (.str [58])))]),Io 37 (.call 326 [(.t 35),(.t 36)])])
 (.rg [If 38 0 4,Il 39 1 38,If 40 2 1,Il 41 1 40,Io 42 (.call 325 [(.t 39),(.t 41)])]))) .skip))
 (.seq (.rg [If 43 0 4,Il 44 1 43,Io 45 (.bls 1 1 [.str []] [(0,(.k (.str [125])))]),Io 46 (.call 326 [(.t 44),(.t 45)])])
 (.seq (.seq (.rg [If 47 0 1,Il 48 1 47,zD 49 48,zj 50 0])
 (.block 0 (.loop [4,48,49,50] (.seq (.rg [zK 51 50 49])
 (.seq (.cond (.t 51) .skip (.exit 0))
 (.seq (.block 1 (.seq (.rg [zF 52 6 48 50,zc 53 6 52,Io 6 (.alloc [.int .i64 0,.str [],.sl .nil 1 [],.sl .nil 6 [],.sl .nil 1 [],.sl .nil 10 []]),⟨none,none,.st 6 (.t 6) (.t 53),[]⟩])
 (.rg [zc 54 1 4,zc 55 6 6,Io 56 (.call 483 [(.t 54),(.t 55)])])))
 (.rg [zC 57 50 1,Im 50 57])))))))
 (.seq (.reg [0,1,2,3,4,5,6,7,8,9,10,11] [If 58 0 4,Il 59 1 58,zk 60 59,If 61 0 60,Il 62 1 61,If 63 0 4,Il 64 1 63,zk 65 64,If 66 1 65,Il 67 1 66,Im 2 62,Im 3 67])
 .ret))))))))))⟩
theorem ck406:za Tryz.prog 406 ir406=true:=by kernel_rfl
def ir407:zf:=⟨5,1,[.t 2],.seq (.rg [zh 2 false])
 (.seq (.rg [Im 3 0,Io 4 (.call 267 [(.t 3),(.k (.str [95,95]))]),Im 2 4])
 .ret)⟩
theorem ck407:za Tryz.prog 407 ir407=true:=by kernel_rfl
def ir408:zf:=⟨19,2,[.t 4],.seq (.rg [zj 4 0])
 (.seq (.seq (.rg [Im 6 0,zD 7 6,zj 8 0])
 (.block 0 (.loop [0,1,7,8] (.seq (.rg [zK 9 8 7])
 (.seq (.cond (.t 9) .skip (.exit 0))
 (.seq (.block 1 (.seq (.rg [Im 10 8,Im 5 10])
 (.seq (.rg [Im 11 1,Im 12 0,Im 13 5,zF 14 1 12 13,Il 15 1 14,Io 16 (.callv (.t 11) [(.t 15)])])
 (.cond (.t 16) (.seq (.rg [Im 17 5,Im 4 17])
 .ret) .skip))))
 (.rg [zC 18 8 1,Im 8 18])))))))
 (.seq (.rg [Io 4 (.mv (.k (.int .i64 (-1))))])
 .ret))⟩
theorem ck408:za Tryz.prog 408 ir408=true:=by kernel_rfl
def ir409:zf:=⟨9,2,[.t 4],.seq (.rg [zh 4 false])
 (.seq (.rg [Im 5 0,Im 6 1,Io 7 (.call 484 [(.t 5),(.t 6)]),Io 8 (.bi .geq .i64 (.t 7) (.k (.int .i64 0))),Im 4 8])
 .ret)⟩
theorem ck409:za Tryz.prog 409 ir409=true:=by kernel_rfl
def ir410:zf:=⟨8,2,[.t 3],.seq (.rg [zp 2 0,zh 3 false])
 (.seq (.rg [Il 4 1 1,zc 5 6 2,Io 6 (.callv (.t 4) [(.t 5)]),zW 7 6,Im 3 7])
 .ret)⟩
theorem ck410:za Tryz.prog 410 ir410=true:=by kernel_rfl
def ir411:zf:=⟨10,2,[.t 3],.seq (.rg [zp 2 0,zh 3 false])
 (.seq (.rg [zc 4 3 1,If 5 1 2,If 6 0 5,Il 7 1 6,Io 8 (.call 353 [(.t 4),(.t 7)]),zW 9 8,Im 3 9])
 .ret)⟩
theorem ck411:za Tryz.prog 411 ir411=true:=by kernel_rfl
def ir412:zf:=⟨17,1,[.t 2],.seq (.rg [zh 2 false])
 (.seq (.rg [Im 3 0,Io 4 (.bs .eql (.t 3) (.k (.str [73,110,116]))),Im 5 4,Fm 6 5 0,Jf 7 5 (.bs .eql (.t 6) (.k (.str [83,116,114,105,110,103]))),ye 8 5 7,Im 9 8,Fm 10 9 0,Jf 11 9 (.bs .eql (.t 10) (.k (.str [66,111,111,108,101,97,110]))),ye 12 9 11,Im 13 12,Fm 14 13 0,Jf 15 13 (.bs .eql (.t 14) (.k (.str [73,68]))),ye 16 13 15,Im 2 16])
 .ret)⟩
theorem ck412:za Tryz.prog 412 ir412=true:=by kernel_rfl
def ir413:zf:=⟨9,2,[.t 3],.seq (.rg [zp 2 0,zh 3 false])
 (.seq (.rg [If 4 0 2,Il 5 1 4,If 6 0 1,Il 7 1 6,Io 8 (.bs .eql (.t 5) (.t 7)),Im 3 8])
 .ret)⟩
theorem ck413:za Tryz.prog 413 ir413=true:=by kernel_rfl
def ir414:zf:=⟨68,3,[.t 6],.seq (.rg [zp 3 0,zp 4 1,zp 5 2,zh 6 false])
 (.seq (.rg [zc 10 3 4,Io 7 (.alloc [.str [],.int .i64 0,.int .i64 0]),⟨none,none,.st 3 (.t 7) (.t 10),[]⟩])
 (.seq (.rg [If 11 0 5,Il 12 1 11,If 13 0 7,⟨none,none,.st 1 (.t 13) (.t 12),[]⟩])
 (.seq (.seq (.rg [zc 14 3 4,Io 15 (.call 370 [(.t 14)]),zW 16 15,Im 17 16,Jf 18 17 (.ld 3 true (.t 7)),Jf 19 17 (.ld 3 true (.t 5)),Jf 20 17 (.call 440 [(.t 18),(.t 19)]),Jf 21 17 (.not (.t 20)),ye 22 17 21])
 (.cond (.t 22) (.seq (.rg [zh 6 false])
 .ret) .skip))
 (.seq (.seq (.rg [If 23 0 4,Il 24 1 23,If 25 0 5,Il 26 1 25,Io 27 (.bs .eql (.t 24) (.t 26))])
 (.cond (.t 27) (.seq (.rg [zh 6 true])
 .ret) .skip))
 (.seq (.rg [zc 29 3 3,If 30 0 4,Il 31 1 30,Io 32 (.call 299 [(.t 29),(.t 31)]),Im 28 32,zr 33 28 0,zr 34 28 1,Io 8 (.alloc [.int .i64 0,.str [],.sl .nil 1 [],.sl .nil 6 [],.sl .nil 1 [],.sl .nil 10 []]),⟨none,none,.st 6 (.t 8) (.t 33),[]⟩,Im 9 34])
 (.seq (.seq (.rg [Im 35 9,zW 36 35])
 (.cond (.t 36) (.seq (.rg [zh 6 false])
 .ret) .skip))
 (.seq (.reg [0,1,2,3,4,5,6,8,9,7,10,11,12,13,14,15,16,17,18,19,20,21,22,23,24,25,26,27,28,29,30,31] [If 37 0 8,Il 38 1 37,zN 39 38 1,Im 40 39,Jt 41 40 (.ld 3 true (.t 3)),Ja 42 40 0 5,Jl 43 40 1 42,Ja 45 40 0 4,Jl 46 40 1 45,⟨some 44,(some (40,true)),.call 178 [(.t 41),(.t 43)],[8]⟩,Jt 47 40 (.call 148 [(.t 44),(.t 46)]),zI 48 40 47,Im 49 48,Fa 50 49 0 8,Fl 51 49 1 50,Jf 52 49 (.bi .eql .i64 (.t 51) (.k (.int .i64 2))),Fm 53 49 52,Jt 54 53 (.ld 3 true (.t 3)),Ja 55 53 0 5,Jl 56 53 1 55,Jt 57 53 (.bls 1 1 [.int .i64 0] [(0,(.k (.int .i64 2)))]),Jt 58 53 (.call 285 [(.t 54),(.t 56),(.t 57)]),Jf 59 49 (.pick (.t 53) (.t 58) (.k (.bool false))),Fm 60 49 59,Ja 61 60 2 8,Jl 62 60 1 61,Ja 63 60 0 5,Jl 64 60 1 63,Jt 65 60 (.call 148 [(.t 62),(.t 64)]),Jf 66 49 (.pick (.t 60) (.t 65) (.k (.bool false))),ye 67 49 66,Im 6 67])
 .ret)))))))⟩
theorem ck414:za Tryz.prog 414 ir414=true:=by kernel_rfl
def ir415:zf:=⟨60,2,[.t 4],.seq (.rg [zp 2 0,zp 3 1,zh 4 false])
 (.seq (.seq (.rg [If 13 1 3,Il 14 1 13,zD 15 14,zj 16 0])
 (.block 0 (.loop [2,3,14,15,16] (.seq (.rg [zK 17 16 15])
 (.seq (.cond (.t 17) .skip (.exit 0))
 (.seq (.block 1 (.seq (.rg [zF 18 10 14 16,zc 19 10 18,Io 6 (.alloc [.str [],.str [],.int .i64 0,.int .i64 0,.bool false,.int .i64 0,.int .i64 0,.str [],.sl .nil 5 [],.sl .nil 6 []]),⟨none,none,.st 10 (.t 6) (.t 19),[]⟩])
 (.seq (.rg [If 21 1 2,Il 22 1 21,If 23 0 6,Il 24 1 23,Io 25 (.call 313 [(.t 22),(.t 24)]),Im 20 25,zr 26 20 0,zr 27 20 1,Io 7 (.alloc [.str [],.str [],.int .i64 0,.int .i64 0,.bool false,.int .i64 0,.int .i64 0,.str [],.sl .nil 5 [],.sl .nil 6 []]),⟨none,none,.st 10 (.t 7) (.t 26),[]⟩,Im 8 27])
 (.seq (.rg [Im 28 8,zW 29 28,Im 30 29,Fa 31 30 1 7,Jf 32 30 (.ld 3 true (.t 31)),Fa 33 30 1 6,Jf 34 30 (.ld 3 true (.t 33)),Jf 35 30 (.eqa true [.s,(.i .i64),(.i .i64)] (.t 32) (.t 34)),ye 36 30 35])
 (.cond (.t 36) (.seq (.rg [zh 4 false])
 .ret) .skip)))))
 (.rg [zC 37 16 1,Im 16 37])))))))
 (.seq (.seq (.rg [If 38 1 2,Il 39 1 38,zD 40 39,zj 41 0])
 (.block 2 (.loop [3,39,40,41] (.seq (.rg [zK 42 41 40])
 (.seq (.cond (.t 42) .skip (.exit 2))
 (.seq (.block 3 (.seq (.rg [zF 43 10 39 41,zc 44 10 43,Io 10 (.alloc [.str [],.str [],.int .i64 0,.int .i64 0,.bool false,.int .i64 0,.int .i64 0,.str [],.sl .nil 5 [],.sl .nil 6 []]),⟨none,none,.st 10 (.t 10) (.t 44),[]⟩])
 (.seq (.rg [If 46 1 3,Il 47 1 46,If 48 0 10,Il 49 1 48,Io 50 (.call 313 [(.t 47),(.t 49)]),Im 45 50,zr 51 45 0,zr 52 45 1,Io 11 (.alloc [.str [],.str [],.int .i64 0,.int .i64 0,.bool false,.int .i64 0,.int .i64 0,.str [],.sl .nil 5 [],.sl .nil 6 []]),⟨none,none,.st 10 (.t 11) (.t 51),[]⟩,Im 12 52])
 (.seq (.rg [Im 53 12,zW 54 53,Im 55 54,Jt 56 55 (.ld 10 true (.t 10)),Jt 57 55 (.call 349 [(.t 56)]),zI 58 55 57])
 (.cond (.t 58) (.seq (.rg [zh 4 false])
 .ret) .skip)))))
 (.rg [zC 59 41 1,Im 41 59])))))))
 (.seq (.rg [zh 4 true])
 .ret)))⟩
theorem ck415:za Tryz.prog 415 ir415=true:=by kernel_rfl
def ir416:zf:=⟨56,2,[.t 4],.seq (.rg [zp 2 0,Io 4 (.mv (.k (.sl .nil 1 [])))])
 (.seq (.rg [zc 11 3 2,Im 12 1,Io 13 (.call 299 [(.t 11),(.t 12)]),Im 10 13,zr 14 10 0,zr 15 10 1,Io 5 (.alloc [.int .i64 0,.str [],.sl .nil 1 [],.sl .nil 6 [],.sl .nil 1 [],.sl .nil 10 []]),⟨none,none,.st 6 (.t 5) (.t 14),[]⟩,Im 6 15])
 (.seq (.rg [Io 7 (.mv (.k (.sl .nil 1 [])))])
 (.seq (.seq (.rg [If 16 5 5,Il 17 1 16,zD 18 17,zj 19 0])
 (.block 0 (.loop [2,7,17,18,19] (.seq (.rg [zK 20 19 18])
 (.seq (.cond (.t 20) .skip (.exit 0))
 (.seq (.block 1 (.seq (.rg [zF 21 10 17 19,zc 22 10 21,Io 9 (.alloc [.str [],.str [],.int .i64 0,.int .i64 0,.bool false,.int .i64 0,.int .i64 0,.str [],.sl .nil 5 [],.sl .nil 6 []]),⟨none,none,.st 10 (.t 9) (.t 22),[]⟩])
 (.seq (.rg [If 23 1 9,If 24 1 23,Il 25 1 24,zN 26 25 0,Im 27 26,Ja 28 27 1 9,Jt 29 27 (.ld 3 true (.t 28)),Jt 30 27 (.call 236 [(.t 29)]),zI 31 27 30,Im 32 31,Jt 33 32 (.ld 3 true (.t 2)),Ja 34 32 1 9,Ja 35 32 0 34,Jl 36 32 1 35,Jt 37 32 (.bls 1 1 [.int .i64 0] [(0,(.k (.int .i64 5)))]),Jt 38 32 (.call 285 [(.t 33),(.t 36),(.t 37)]),zI 39 32 38,Im 40 39,Jm 41 40 7,Ja 42 40 1 9,Ja 43 40 0 42,Jl 44 40 1 43,Jt 45 40 (.call 148 [(.t 41),(.t 44)]),Jt 46 40 (.not (.t 45)),zI 47 40 46])
 (.cond (.t 47) (.rg [Im 48 7,If 49 1 9,If 50 0 49,Il 51 1 50,Io 52 (.bls 1 1 [.str []] [(0,(.t 51))]),z1 53 1 16 48 52,Im 7 53]) .skip))))
 (.rg [zC 54 19 1,Im 19 54])))))))
 (.seq (.rg [Im 55 7,Im 4 55])
 .ret))))⟩
theorem ck416:za Tryz.prog 416 ir416=true:=by kernel_rfl
def ir417:zf:=⟨15,2,[.t 3],.seq (.rg [zp 2 0,zh 3 false])
 (.seq (.rg [If 4 4 2,Il 5 1 4,Im 6 5,Jt 7 6 (.ld 3 true (.t 1)),Ja 8 6 1 2,Jt 9 6 (.ld 3 true (.t 8)),Ja 10 6 5 2,Jt 11 6 (.ld 5 true (.t 10)),Jt 12 6 (.call 358 [(.t 7),(.t 9),(.t 11)]),Jt 13 6 (.not (.t 12)),zI 14 6 13,Im 3 14])
 .ret)⟩
theorem ck417:za Tryz.prog 417 ir417=true:=by kernel_rfl
def ir418:zf:=⟨19,2,[.t 4],.seq (.rg [zj 4 0])
 (.seq (.seq (.rg [Im 6 0,zD 7 6,zj 8 0])
 (.block 0 (.loop [0,1,7,8] (.seq (.rg [zK 9 8 7])
 (.seq (.cond (.t 9) .skip (.exit 0))
 (.seq (.block 1 (.seq (.rg [Im 10 8,Im 5 10])
 (.seq (.rg [Im 11 1,Im 12 0,Im 13 5,zF 14 10 12 13,zc 15 10 14,Io 16 (.callv (.t 11) [(.t 15)])])
 (.cond (.t 16) (.seq (.rg [Im 17 5,Im 4 17])
 .ret) .skip))))
 (.rg [zC 18 8 1,Im 8 18])))))))
 (.seq (.rg [Io 4 (.mv (.k (.int .i64 (-1))))])
 .ret))⟩
theorem ck418:za Tryz.prog 418 ir418=true:=by kernel_rfl
def ir423:zf:=⟨15,2,[.c 4 6 true],.seq (.rg [Io 4 (.alloc [.str [],.int .i64 0,.int .i64 0,.str [],.sl .nil 5 [],.sl .nil 6 []])])
 (.seq (.rg [Im 6 0,Io 7 (.call 158 [(.t 6)]),Im 5 7])
 (.seq (.rg [Im 8 0,Io 9 (.call 157 [(.t 8),(.k (.str [58]))])])
 (.seq (.rg [Im 10 5,Im 11 0,Im 12 1,Io 13 (.call 324 [(.t 11),(.t 12)]),Io 14 (.bld [.str [],.int .i64 0,.int .i64 0,.str [],.sl .nil 5 [],.sl .nil 6 []] [(0,1,(.t 10)),(1,5,(.t 13))]),⟨none,none,.st 6 (.t 4) (.t 14),[]⟩])
 .ret)))⟩
theorem ck423:za Tryz.prog 423 ir423=true:=by kernel_rfl
def ir424:zf:=⟨15,1,[.c 2 5 true],.seq (.rg [Io 2 (.alloc [.int .i64 0,.int .i64 0,.str [],.sl .nil 5 [],.sl .nil 6 []])])
 (.seq (.seq (.rg [Im 3 0])
 (.block 0 (.seq (.rg [Io 5 (.bs .eql (.t 3) (.k (.str [110,117,108,108]))),Im 4 5])
 (.cond (.t 4) (.seq (.rg [Io 6 (.bld [.int .i64 0,.int .i64 0,.str [],.sl .nil 5 [],.sl .nil 6 []] []),⟨none,none,.st 5 (.t 2) (.t 6),[]⟩])
 .ret) (.seq (.rg [Io 8 (.bs .eql (.t 3) (.k (.str [116,114,117,101]))),Im 7 8])
 (.cond (.t 7) (.seq (.rg [Io 9 (.bld [.int .i64 0,.int .i64 0,.str [],.sl .nil 5 [],.sl .nil 6 []] [(0,1,(.k (.int .i64 1))),(1,1,(.k (.int .i64 1)))]),⟨none,none,.st 5 (.t 2) (.t 9),[]⟩])
 .ret) (.seq (.rg [Io 11 (.bs .eql (.t 3) (.k (.str [102,97,108,115,101]))),Im 10 11])
 (.cond (.t 10) (.seq (.rg [Io 12 (.bld [.int .i64 0,.int .i64 0,.str [],.sl .nil 5 [],.sl .nil 6 []] [(0,1,(.k (.int .i64 1)))]),⟨none,none,.st 5 (.t 2) (.t 12),[]⟩])
 .ret) .skip))))))))
 (.seq (.rg [Im 13 0,Io 14 (.bld [.int .i64 0,.int .i64 0,.str [],.sl .nil 5 [],.sl .nil 6 []] [(0,1,(.k (.int .i64 5))),(2,1,(.t 13))]),⟨none,none,.st 5 (.t 2) (.t 14),[]⟩])
 .ret))⟩
theorem ck424:za Tryz.prog 424 ir424=true:=by kernel_rfl
def ir425:zf:=⟨38,2,[.t 4],.seq (.rg [zp 2 0,zp 3 1,zh 4 false])
 (.seq (.rg [If 5 0 2,Il 6 1 5,If 7 0 3,Il 8 1 7,Io 9 (.bi .eql .i64 (.t 6) (.t 8)),Im 10 9,Ja 11 10 1 2,Jl 12 10 1 11,Ja 13 10 1 3,Jl 14 10 1 13,Jt 15 10 (.bi .eql .i64 (.t 12) (.t 14)),zI 16 10 15,Im 17 16,Ja 18 17 2 2,Jl 19 17 1 18,Ja 20 17 2 3,Jl 21 17 1 20,Jt 22 17 (.bs .eql (.t 19) (.t 21)),zI 23 17 22,Im 24 23,Ja 25 24 3 2,Jl 26 24 1 25,Ja 27 24 3 3,Jl 28 24 1 27,Jt 29 24 (.call 488 [(.t 26),(.t 28),(.k (.clo 425 [] []))]),zI 30 24 29,Im 31 30,Ja 32 31 4 2,Jl 33 31 1 32,Ja 34 31 4 3,Jl 35 31 1 34,Jt 36 31 (.call 489 [(.t 33),(.t 35),(.k (.clo 490 [] []))]),zI 37 31 36,Im 4 37])
 .ret)⟩
theorem ck425:za Tryz.prog 425 ir425=true:=by kernel_rfl
def ir426:zf:=⟨45,3,[],.seq (.rg [zp 4 1])
 (.seq (.rg [zc 9 5 4,Io 10 (.call 491 [(.t 9)]),Im 8 10,zr 11 8 0,zr 12 8 1,Im 6 11,Im 7 12])
 (.seq (.reg [0,1,2,3,4,5,6,7,8,9,10,11,12,13,14,15,16,17,18,19,20,21,22] [Im 13 0,Im 14 7,Im 15 14,Jm 16 15 0,Jt 17 15 (.nilchk (.t 16)),Ja 18 15 2 17,Jl 19 15 1 18,Jt 20 15 (.ld 5 true (.t 4)),⟨some 21,(some (15,true)),.call 492 [(.t 20)],[6]⟩,Jt 22 15 (.bi .add .i64 (.t 19) (.t 21)),Jt 23 15 (.bi .leq .i64 (.t 22) (.k (.int .i64 16))),zI 24 15 23,Im 25 24,Jm 26 25 2,Jm 27 25 26,Jt 28 27 (.ld 5 true (.t 4)),Jt 29 27 (.call 493 [(.t 28)]),Jt 30 27 (.len (.t 29)),Jt 31 27 (.bi .gtr .i64 (.t 30) (.k (.int .i64 0))),Jt 32 25 (.pick (.t 27) (.t 31) (.k (.bool false))),Jt 33 25 (.not (.t 32)),zI 34 25 33,Io 35 (.call 198 [(.t 13),(.t 34)])])
 (.rg [Im 36 0,Im 37 0,zk 38 37,If 39 0 38,Il 40 1 39,Im 41 6,z1 42 2 24 40 41,zk 43 36,If 44 0 43,⟨none,none,.st 1 (.t 44) (.t 42),[]⟩])))⟩
theorem ck426:za Tryz.prog 426 ir426=true:=by kernel_rfl
def ir427:zf:=⟨36,3,[],.seq (.seq (.rg [Im 8 2,zD 9 8,zN 10 9 0])
 (.cond (.t 10) .ret .skip))
 (.seq (.rg [Im 11 0,Io 12 (.bls 1 1 [.str []] [(0,(.k (.str [40])))]),Io 13 (.call 326 [(.t 11),(.t 12)])])
 (.seq (.seq (.rg [Im 14 2,zD 15 14,zj 16 0])
 (.block 0 (.loop [0,1,14,15,16] (.seq (.rg [zK 17 16 15])
 (.seq (.cond (.t 17) .skip (.exit 0))
 (.seq (.block 1 (.seq (.rg [zF 18 6 14 16,zc 19 6 18,Io 7 (.alloc [.str [],.int .i64 0,.int .i64 0,.str [],.sl .nil 5 [],.sl .nil 6 []]),⟨none,none,.st 6 (.t 7) (.t 19),[]⟩])
 (.seq (.rg [Im 20 0,If 21 0 7,Il 22 1 21,Io 23 (.call 325 [(.t 20),(.t 22)])])
 (.seq (.rg [Im 24 0,Io 25 (.bls 1 1 [.str []] [(0,(.k (.str [58])))]),Io 26 (.call 326 [(.t 24),(.t 25)])])
 (.rg [Im 27 0,If 28 1 7,zc 29 5 28,Im 30 1,Io 31 (.call 426 [(.t 27),(.t 29),(.t 30)])])))))
 (.rg [zC 32 16 1,Im 16 32])))))))
 (.rg [Im 33 0,Io 34 (.bls 1 1 [.str []] [(0,(.k (.str [41])))]),Io 35 (.call 326 [(.t 33),(.t 34)])])))⟩
theorem ck427:za Tryz.prog 427 ir427=true:=by kernel_rfl
def ir428:zf:=⟨82,2,[],.scope (.seq (.rg [Im 6 0,Im 7 1,zD 8 7,YV 9 8 0,Im 10 9,Jm 11 10 0,Jt 12 10 (.nilchk (.t 11)),Ja 13 10 2 12,Jl 14 10 1 13,Jt 15 10 (.bi .leq .i64 (.t 14) (.k (.int .i64 16))),zI 16 10 15,Io 17 (.call 198 [(.t 6),(.t 16)])])
 (.seq .skip
 (.seq (.rg [Im 18 1,zD 19 18,zj 20 0])
 (.block 0 (.loop [0,18,19,20] (.seq (.rg [zK 21 20 19])
 (.seq (.cond (.t 21) .skip (.exit 0))
 (.seq (.block 1 (.seq (.rg [zF 22 7 18 20,zc 23 7 22,Io 5 (.alloc [.int .i64 0,.str [],.str [],.sl .nil 6 [],.sl .nil 2 [],.str [],.sl .nil 7 []]),⟨none,none,.st 7 (.t 5) (.t 23),[]⟩])
 (.seq (.seq (.rg [Im 24 0,zk 25 24,If 26 1 25,Il 27 1 26,zW 28 27])
 (.cond (.t 28) .ret .skip))
 (.seq (.seq (.rg [If 29 0 5,Il 30 1 29])
 (.block 2 (.seq (.rg [zN 32 30 1,Im 31 32])
 (.cond (.t 31) (.seq (.rg [Im 33 0,zc 34 7 5,Io 35 (.call 494 [(.t 33),(.t 34)])])
 (.exit 1)) (.seq (.rg [zN 37 30 2,Im 36 37])
 (.cond (.t 36) (.seq (.rg [Im 38 0,zc 39 7 5,Io 40 (.call 495 [(.t 38),(.t 39)])])
 (.exit 1)) .skip))))))
 (.seq (.rg [Im 41 0,If 42 0 5,Il 43 1 42,zN 44 43 0,Im 45 44,Ja 46 45 5 5,Jl 47 45 1 46,Jt 48 45 (.bs .eql (.t 47) (.k (.str []))),zI 49 45 48,Io 50 (.call 198 [(.t 41),(.t 49)])])
 (.seq (.seq (.rg [If 51 1 5,Il 52 1 51,Io 53 (.bs .neq (.t 52) (.k (.str [])))])
 (.cond (.t 53) (.seq (.rg [Im 54 0,If 55 1 5,Il 56 1 55,Io 57 (.call 325 [(.t 54),(.t 56)])])
 (.rg [Im 58 0,Io 59 (.bls 1 1 [.str []] [(0,(.k (.str [58])))]),Io 60 (.call 326 [(.t 58),(.t 59)])])) .skip))
 (.seq (.rg [Im 61 0,If 62 2 5,Il 63 1 62,Io 64 (.call 325 [(.t 61),(.t 63)])])
 (.seq (.rg [Im 65 0,If 66 3 5,Il 67 1 66,Io 68 (.call 427 [(.t 65),(.k (.bool false)),(.t 67)])])
 (.seq (.rg [Im 69 0,If 70 4 5,Il 71 1 70,Io 72 (.call 329 [(.t 69),(.k (.bool false)),(.t 71)])])
 (.seq (.rg [If 73 6 5,Il 74 1 73,zD 75 74,YV 76 75 0])
 (.cond (.t 76) (.rg [Im 77 0,If 78 6 5,Il 79 1 78,Io 80 (.call 330 [(.t 77),(.t 79)])]) .skip)))))))))))
 (.rg [zC 81 20 1,Im 20 81])))))))))⟩
theorem ck428:za Tryz.prog 428 ir428=true:=by kernel_rfl
def ir429:zf:=⟨19,2,[.t 4],.seq (.rg [zj 4 0])
 (.seq (.seq (.rg [Im 6 0,zD 7 6,zj 8 0])
 (.block 0 (.loop [0,1,7,8] (.seq (.rg [zK 9 8 7])
 (.seq (.cond (.t 9) .skip (.exit 0))
 (.seq (.block 1 (.seq (.rg [Im 10 8,Im 5 10])
 (.seq (.rg [Im 11 1,Im 12 0,Im 13 5,zF 14 1 12 13,Il 15 1 14,Io 16 (.callv (.t 11) [(.t 15)])])
 (.cond (.t 16) (.seq (.rg [Im 17 5,Im 4 17])
 .ret) .skip))))
 (.rg [zC 18 8 1,Im 8 18])))))))
 (.seq (.rg [Io 4 (.mv (.k (.int .i64 (-1))))])
 .ret))⟩
theorem ck429:za Tryz.prog 429 ir429=true:=by kernel_rfl
def ir430:zf:=⟨9,2,[.t 4],.seq (.rg [zh 4 false])
 (.seq (.rg [Im 5 0,Im 6 1,Io 7 (.call 496 [(.t 5),(.t 6)]),Io 8 (.bi .geq .i64 (.t 7) (.k (.int .i64 0))),Im 4 8])
 .ret)⟩
theorem ck430:za Tryz.prog 430 ir430=true:=by kernel_rfl
def ir432:zf:=⟨8,2,[.t 3],.seq (.rg [zp 2 0,zh 3 false])
 (.seq (.rg [If 4 0 2,Il 5 1 4,Il 6 1 1,Io 7 (.bs .eql (.t 5) (.t 6)),Im 3 7])
 .ret)⟩
theorem ck432:za Tryz.prog 432 ir432=true:=by kernel_rfl
def ir434:zf:=⟨19,2,[.t 4],.seq (.rg [zj 4 0])
 (.seq (.seq (.rg [Im 6 0,zD 7 6,zj 8 0])
 (.block 0 (.loop [0,1,7,8] (.seq (.rg [zK 9 8 7])
 (.seq (.cond (.t 9) .skip (.exit 0))
 (.seq (.block 1 (.seq (.rg [Im 10 8,Im 5 10])
 (.seq (.rg [Im 11 1,Im 12 0,Im 13 5,zF 14 10 12 13,zc 15 10 14,Io 16 (.callv (.t 11) [(.t 15)])])
 (.cond (.t 16) (.seq (.rg [Im 17 5,Im 4 17])
 .ret) .skip))))
 (.rg [zC 18 8 1,Im 8 18])))))))
 (.seq (.rg [Io 4 (.mv (.k (.int .i64 (-1))))])
 .ret))⟩
theorem ck434:za Tryz.prog 434 ir434=true:=by kernel_rfl
def ir440:zf:=⟨33,2,[.t 4],.seq (.rg [zp 2 0,zp 3 1,zh 4 false])
 (.seq (.rg [zc 5 3 2,Io 6 (.call 370 [(.t 5)]),Im 7 6,Jt 8 7 (.ld 3 true (.t 3)),Jt 9 7 (.call 370 [(.t 8)]),zI 10 7 9,Im 11 10,Ja 12 11 0 2,Jl 13 11 1 12,Ja 14 11 0 3,Jl 15 11 1 14,Jt 16 11 (.bs .eql (.t 13) (.t 15)),zI 17 11 16,Im 18 17,Ja 19 18 1 2,Jl 20 18 1 19,Ja 21 18 1 3,Jl 22 18 1 21,Jt 23 18 (.bi .eql .i64 (.t 20) (.t 22)),zI 24 18 23,Im 25 24,Ja 26 25 2 3,Jl 27 25 1 26,Ja 28 25 2 2,Jl 29 25 1 28,Jt 30 25 (.bi .andNot .i64 (.t 27) (.t 29)),Jt 31 25 (.bi .eql .i64 (.t 30) (.k (.int .i64 0))),zI 32 25 31,Im 4 32])
 .ret)⟩
theorem ck440:za Tryz.prog 440 ir440=true:=by kernel_rfl
def ir441:zf:=⟨10,1,[.c 2 3 true],.seq (.rg [Io 1 (.box (.t 0)),Io 2 (.alloc [.str [],.int .i64 0,.int .i64 0])])
 (.seq (.seq (.rg [zc 3 3 1,Io 4 (.call 370 [(.t 3)])])
 (.cond (.t 4) (.rg [If 5 2 1,Il 6 1 5,Io 7 (.bi .andNot .i64 (.t 6) (.k (.int .i64 1))),If 8 2 1,⟨none,none,.st 1 (.t 8) (.t 7),[]⟩]) .skip))
 (.seq (.rg [zc 9 3 1,⟨none,none,.st 3 (.t 2) (.t 9),[]⟩])
 .ret))⟩
theorem ck441:za Tryz.prog 441 ir441=true:=by kernel_rfl
def ir447:zf:=⟨22,1,[.c 2 3 true,.t 3],.seq (.rg [zp 1 0,Io 2 (.alloc [.str [],.int .i64 0,.int .i64 0]),zh 3 false])
 (.seq (.seq (.rg [zc 4 3 1,Io 5 (.call 370 [(.t 4)]),zW 6 5,Im 7 6,Fa 8 7 1 1,Fl 9 7 1 8,Jf 10 7 (.bi .eql .i64 (.t 9) (.k (.int .i64 0))),ye 11 7 10])
 (.cond (.t 11) (.seq (.rg [Io 12 (.bld [.str [],.int .i64 0,.int .i64 0] []),⟨none,none,.st 3 (.t 2) (.t 12),[]⟩,zh 3 false])
 .ret) .skip))
 (.seq (.rg [If 13 0 1,Il 14 1 13,If 15 1 1,Il 16 1 15,VA 17 16 1,If 18 2 1,Il 19 1 18,Io 20 (.shf .shr (.t 19) (.k (.int .u64 1))),Io 21 (.bld [.str [],.int .i64 0,.int .i64 0] [(0,1,(.t 14)),(1,1,(.t 17)),(2,1,(.t 20))]),⟨none,none,.st 3 (.t 2) (.t 21),[]⟩,zh 3 true])
 .ret))⟩
theorem ck447:za Tryz.prog 447 ir447=true:=by kernel_rfl
def ir464:zf:=⟨19,2,[.t 4],.seq (.rg [zj 4 0])
 (.seq (.seq (.rg [Im 6 0,zD 7 6,zj 8 0])
 (.block 0 (.loop [0,1,7,8] (.seq (.rg [zK 9 8 7])
 (.seq (.cond (.t 9) .skip (.exit 0))
 (.seq (.block 1 (.seq (.rg [Im 10 8,Im 5 10])
 (.seq (.rg [Im 11 1,Im 12 0,Im 13 5,zF 14 4 12 13,zc 15 4 14,Io 16 (.callv (.t 11) [(.t 15)])])
 (.cond (.t 16) (.seq (.rg [Im 17 5,Im 4 17])
 .ret) .skip))))
 (.rg [zC 18 8 1,Im 8 18])))))))
 (.seq (.rg [Io 4 (.mv (.k (.int .i64 (-1))))])
 .ret))⟩
theorem ck464:za Tryz.prog 464 ir464=true:=by kernel_rfl
def ir466:zf:=⟨53,4,[],.seq (.rg [Im 10 1,zC 11 10 1,Im 8 11])
 (.block 0 (.loop [0,1,2,3,8] (.seq (.seq (.rg [Im 12 8,Im 13 2,zK 14 12 13])
 (.cond (.t 14) .skip (.exit 0)))
 (.seq (.block 1 (.seq (.rg [Im 17 8,Im 9 17])
 (.block 2 (.loop [0,1,2,3,8,9] (.seq (.seq (.reg [0,1,2,3,4,5,6,7,8,9,10,11,12,13,14,15,16] [Im 18 9,Im 19 1,Io 20 (.bi .gtr .i64 (.t 18) (.t 19)),Im 21 20,Jm 22 21 3,Jm 23 21 0,Jm 24 21 9,Jt 25 21 (.ia 2 (.t 23) (.t 24)),Jt 26 21 (.ld 2 true (.t 25)),Jm 27 21 0,Jm 28 21 9,Jt 29 21 (.bi .sub .i64 (.t 28) (.k (.int .i64 1))),Jt 30 21 (.ia 2 (.t 27) (.t 29)),Jt 31 21 (.ld 2 true (.t 30)),Jt 32 21 (.callv (.t 22) [(.t 26),(.t 31)]),Jt 33 21 (.bi .lss .i64 (.t 32) (.k (.int .i64 0))),zI 34 21 33])
 (.cond (.t 34) .skip (.exit 2)))
 (.seq (.block 3 (.reg [0,1,2,3,4,5,6,7,8,9,10,11,12,13,14,15,16,17] [Im 37 0,Im 38 9,Im 39 0,Im 40 9,VA 41 40 1,Im 42 0,Im 43 9,VA 44 43 1,zF 45 2 42 44,zc 46 2 45,Im 47 0,Im 48 9,zF 49 2 47 48,zc 50 2 49,zF 51 2 37 38,⟨none,none,.st 2 (.t 51) (.t 46),[]⟩,zF 52 2 39 41,⟨none,none,.st 2 (.t 52) (.t 50),[]⟩]))
 (.rg [Im 35 9,VA 36 35 1,Im 9 36])))))))
 (.rg [Im 15 8,zC 16 15 1,Im 8 16])))))⟩
theorem ck466:za Tryz.prog 466 ir466=true:=by kernel_rfl
def ir467:zf:=⟨220,5,[],.seq (.seq (.rg [Im 25 2,Im 26 1,Io 27 (.bi .sub .i64 (.t 25) (.t 26)),zN 28 27 1])
 (.cond (.t 28) (.seq (.rg [Im 29 2,Im 10 29])
 (.seq (.rg [Im 30 3,Im 11 30])
 (.seq (.block 0 (.loop [0,1,4,10,11] (.seq (.seq (.rg [Im 31 10,Im 32 11,zK 33 31 32])
 (.cond (.t 33) .skip (.exit 0)))
 (.block 1 (.seq (.rg [Im 34 10,Im 35 11,XM 36 34 35,Io 37 (.cvi .u64 (.t 36)),Io 38 (.shf .shr (.t 37) (.k (.int .u64 1))),Io 39 (.cvi .i64 (.t 38)),Im 12 39])
 (.seq (.reg [0,1,2,3,4,5,6,7,8,9,10] [Im 40 4,Im 41 0,Im 42 12,zF 43 2 41 42,zc 44 2 43,Im 45 0,Im 46 1,zF 47 2 45 46,zc 48 2 47,Io 49 (.callv (.t 40) [(.t 44),(.t 48)]),Io 50 (.bi .lss .i64 (.t 49) (.k (.int .i64 0)))])
 (.cond (.t 50) (.rg [Im 51 12,zC 52 51 1,Im 10 52]) (.rg [Im 53 12,Im 11 53]))))))))
 (.seq (.seq (.rg [Im 54 1,Im 13 54])
 (.block 2 (.loop [0,10,13] (.seq (.seq (.rg [Im 55 13,Im 56 10,VA 57 56 1,zK 58 55 57])
 (.cond (.t 58) .skip (.exit 2)))
 (.seq (.block 3 (.reg [0,1,2,3,4,5,6,7,8,9,10,11,12,13,14,15,16,17] [Im 61 0,Im 62 13,Im 63 0,Im 64 13,zC 65 64 1,Im 66 0,Im 67 13,zC 68 67 1,zF 69 2 66 68,zc 70 2 69,Im 71 0,Im 72 13,zF 73 2 71 72,zc 74 2 73,zF 75 2 61 62,⟨none,none,.st 2 (.t 75) (.t 70),[]⟩,zF 76 2 63 65,⟨none,none,.st 2 (.t 76) (.t 74),[]⟩]))
 (.rg [Im 59 13,zC 60 59 1,Im 13 60]))))))
 .ret)))) .skip))
 (.seq (.seq (.rg [Im 77 3,Im 78 2,Io 79 (.bi .sub .i64 (.t 77) (.t 78)),zN 80 79 1])
 (.cond (.t 80) (.seq (.rg [Im 81 1,Im 14 81])
 (.seq (.rg [Im 82 2,Im 15 82])
 (.seq (.block 4 (.loop [0,2,4,14,15] (.seq (.seq (.rg [Im 83 14,Im 84 15,zK 85 83 84])
 (.cond (.t 85) .skip (.exit 4)))
 (.block 5 (.seq (.rg [Im 86 14,Im 87 15,XM 88 86 87,Io 89 (.cvi .u64 (.t 88)),Io 90 (.shf .shr (.t 89) (.k (.int .u64 1))),Io 91 (.cvi .i64 (.t 90)),Im 16 91])
 (.seq (.reg [0,1,2,3,4,5,6,7,8,9,10,11] [Im 92 4,Im 93 0,Im 94 2,zF 95 2 93 94,zc 96 2 95,Im 97 0,Im 98 16,zF 99 2 97 98,zc 100 2 99,Io 101 (.callv (.t 92) [(.t 96),(.t 100)]),Io 102 (.bi .lss .i64 (.t 101) (.k (.int .i64 0))),zW 103 102])
 (.cond (.t 103) (.rg [Im 104 16,zC 105 104 1,Im 14 105]) (.rg [Im 106 16,Im 15 106]))))))))
 (.seq (.seq (.rg [Im 107 2,Im 17 107])
 (.block 6 (.loop [0,14,17] (.seq (.seq (.rg [Im 108 17,Im 109 14,Io 110 (.bi .gtr .i64 (.t 108) (.t 109))])
 (.cond (.t 110) .skip (.exit 6)))
 (.seq (.block 7 (.reg [0,1,2,3,4,5,6,7,8,9,10,11,12,13,14,15,16,17] [Im 113 0,Im 114 17,Im 115 0,Im 116 17,VA 117 116 1,Im 118 0,Im 119 17,VA 120 119 1,zF 121 2 118 120,zc 122 2 121,Im 123 0,Im 124 17,zF 125 2 123 124,zc 126 2 125,zF 127 2 113 114,⟨none,none,.st 2 (.t 127) (.t 122),[]⟩,zF 128 2 115 117,⟨none,none,.st 2 (.t 128) (.t 126),[]⟩]))
 (.rg [Im 111 17,VA 112 111 1,Im 17 112]))))))
 .ret)))) .skip))
 (.seq (.rg [Im 129 1,Im 130 3,XM 131 129 130,Io 132 (.cvi .u64 (.t 131)),Io 133 (.shf .shr (.t 132) (.k (.int .u64 1))),Io 134 (.cvi .i64 (.t 133)),Im 18 134])
 (.seq (.rg [Im 135 18,Im 136 2,XM 137 135 136,Im 19 137])
 (.seq (.rg [zj 20 0,zj 21 0])
 (.seq (.seq (.rg [Im 138 2,Im 139 18,Io 140 (.bi .gtr .i64 (.t 138) (.t 139))])
 (.cond (.t 140) (.seq (.rg [Im 141 19,Im 142 3,Io 143 (.bi .sub .i64 (.t 141) (.t 142)),Im 20 143])
 (.rg [Im 144 18,Im 21 144])) (.seq (.rg [Im 145 1,Im 20 145])
 (.rg [Im 146 2,Im 21 146]))))
 (.seq (.rg [Im 147 19,VA 148 147 1,Im 22 148])
 (.seq (.block 8 (.loop [0,1,2,3,4,18,19,20,21,22] (.seq (.seq (.rg [Im 149 20,Im 150 21,zK 151 149 150])
 (.cond (.t 151) .skip (.exit 8)))
 (.block 9 (.seq (.rg [Im 152 20,Im 153 21,XM 154 152 153,Io 155 (.cvi .u64 (.t 154)),Io 156 (.shf .shr (.t 155) (.k (.int .u64 1))),Io 157 (.cvi .i64 (.t 156)),Im 23 157])
 (.seq (.reg [0,1,2,3,4,5,6,7,8,9,10,11,12,13] [Im 158 4,Im 159 0,Im 160 22,Im 161 23,Io 162 (.bi .sub .i64 (.t 160) (.t 161)),zF 163 2 159 162,zc 164 2 163,Im 165 0,Im 166 23,zF 167 2 165 166,zc 168 2 167,Io 169 (.callv (.t 158) [(.t 164),(.t 168)]),Io 170 (.bi .lss .i64 (.t 169) (.k (.int .i64 0))),zW 171 170])
 (.cond (.t 171) (.rg [Im 172 23,zC 173 172 1,Im 20 173]) (.rg [Im 174 23,Im 21 174]))))))))
 (.seq (.rg [Im 175 19,Im 176 20,Io 177 (.bi .sub .i64 (.t 175) (.t 176)),Im 24 177])
 (.seq (.seq (.rg [Im 178 20,Im 179 2,zK 180 178 179,Im 181 180,Jm 182 181 2,Jm 183 181 24,Jt 184 181 (.bi .lss .i64 (.t 182) (.t 183)),zI 185 181 184])
 (.cond (.t 185) (.rg [Im 186 0,Im 187 20,Im 188 2,Im 189 24,Im 190 4,Io 191 (.call 511 [(.t 186),(.t 187),(.t 188),(.t 189),(.t 190)])]) .skip))
 (.seq (.seq (.rg [Im 192 1,Im 193 20,zK 194 192 193,Im 195 194,Jm 196 195 20,Jm 197 195 18,Jt 198 195 (.bi .lss .i64 (.t 196) (.t 197)),zI 199 195 198])
 (.cond (.t 199) (.rg [Im 200 0,Im 201 1,Im 202 20,Im 203 18,Im 204 4,Io 205 (.call 467 [(.t 200),(.t 201),(.t 202),(.t 203),(.t 204)])]) .skip))
 (.seq (.rg [Im 206 18,Im 207 24,zK 208 206 207,Im 209 208,Jm 210 209 24,Jm 211 209 3,Jt 212 209 (.bi .lss .i64 (.t 210) (.t 211)),zI 213 209 212])
 (.cond (.t 213) (.rg [Im 214 0,Im 215 18,Im 216 24,Im 217 3,Im 218 4,Io 219 (.call 467 [(.t 214),(.t 215),(.t 216),(.t 217),(.t 218)])]) .skip))))))))))))⟩
theorem ck467:za Tryz.prog 467 ir467=true:=by kernel_rfl
def ir468:zf:=⟨6,1,[.t 2],.seq (.rg [zh 2 false])
 (.seq (.rg [Im 3 0,Im 4 0,Io 5 (.bi .neq .i64 (.t 3) (.t 4)),Im 2 5])
 .ret)⟩
theorem ck468:za Tryz.prog 468 ir468=true:=by kernel_rfl
def ir469:zf:=⟨6,1,[.t 2],.seq (.rg [zh 2 false])
 (.seq (.rg [Im 3 0,Im 4 0,Io 5 (.bs .neq (.t 3) (.t 4)),Im 2 5])
 .ret)⟩
theorem ck469:za Tryz.prog 469 ir469=true:=by kernel_rfl
def ir471:zf:=⟨19,2,[.t 4],.seq (.rg [zj 4 0])
 (.seq (.seq (.rg [Im 6 0,zD 7 6,zj 8 0])
 (.block 0 (.loop [0,1,7,8] (.seq (.rg [zK 9 8 7])
 (.seq (.cond (.t 9) .skip (.exit 0))
 (.seq (.block 1 (.seq (.rg [Im 10 8,Im 5 10])
 (.seq (.rg [Im 11 1,Im 12 0,Im 13 5,zF 14 2 12 13,zc 15 2 14,Io 16 (.callv (.t 11) [(.t 15)])])
 (.cond (.t 16) (.seq (.rg [Im 17 5,Im 4 17])
 .ret) .skip))))
 (.rg [zC 18 8 1,Im 8 18])))))))
 (.seq (.rg [Io 4 (.mv (.k (.int .i64 (-1))))])
 .ret))⟩
theorem ck471:za Tryz.prog 471 ir471=true:=by kernel_rfl
def ir477:zf:=⟨57,1,[.t 2],.seq (.rg [Io 2 (.mv (.k (.sl .nil 1 [])))])
 (.seq (.rg [Io 3 (.mv (.k (.sl .nil 1 [])))])
 (.seq (.rg [zj 4 0])
 (.seq (.seq (.rg [zj 5 0])
 (.block 0 (.loop [0,3,4,5] (.seq (.seq (.rg [Im 6 5,Im 7 0,WW 8 7,zK 9 6 8])
 (.cond (.t 9) .skip (.exit 0)))
 (.seq (.block 1 (.seq (.seq (.rg [Im 12 0,Im 13 5,Io 14 (.ixs (.t 12) (.t 13)),Io 15 (.bi .neq .u8 (.t 14) (.k (.int .u8 10))),Im 16 15,Jm 17 16 0,Jm 18 16 5,Jt 19 16 (.ixs (.t 17) (.t 18)),Jt 20 16 (.bi .neq .u8 (.t 19) (.k (.int .u8 13))),zI 21 16 20])
 (.cond (.t 21) (.exit 1) .skip))
 (.seq (.rg [Im 22 3,Im 23 0,Im 24 4,Im 25 5,Io 26 (.sls (.t 23) (some (.t 24)) (some (.t 25))),Io 27 (.bls 1 1 [.str []] [(0,(.t 26))]),Io 28 (.appm 1 16 [.str []] (.t 22) (.t 27)),Im 3 28])
 (.seq (.seq (.rg [Im 29 0,Im 30 5,Io 31 (.ixs (.t 29) (.t 30)),Io 32 (.bi .eql .u8 (.t 31) (.k (.int .u8 13))),Im 33 32,Jm 34 33 5,Jt 35 33 (.bi .add .i64 (.t 34) (.k (.int .i64 1))),Jm 36 33 0,Jt 37 33 (.lens (.t 36)),Jt 38 33 (.bi .lss .i64 (.t 35) (.t 37)),zI 39 33 38,Im 40 39,Jm 41 40 0,Jm 42 40 5,Jt 43 40 (.bi .add .i64 (.t 42) (.k (.int .i64 1))),Jt 44 40 (.ixs (.t 41) (.t 43)),Jt 45 40 (.bi .eql .u8 (.t 44) (.k (.int .u8 10))),zI 46 40 45])
 (.cond (.t 46) (.rg [Im 47 5,zC 48 47 1,Im 5 48]) .skip))
 (.rg [Im 49 5,zC 50 49 1,Im 4 50])))))
 (.rg [Im 10 5,zC 11 10 1,Im 5 11]))))))
 (.seq (.rg [Im 51 3,Im 52 0,Im 53 4,Io 54 (.sls (.t 52) (some (.t 53)) none),Io 55 (.bls 1 1 [.str []] [(0,(.t 54))]),Io 56 (.appm 1 16 [.str []] (.t 51) (.t 55)),Im 2 56])
 .ret))))⟩
theorem ck477:za Tryz.prog 477 ir477=true:=by kernel_rfl
def ir478:zf:=⟨36,1,[.t 2],.seq (.rg [zj 2 0])
 (.scope (.seq (.rg [Io 3 (.mv (.k (.int .i64 (-1))))])
 (.seq .skip
 (.seq (.seq (.rg [Im 8 0,zD 9 8,zj 10 0])
 (.block 0 (.loop [3,8,9,10] (.seq (.rg [zK 11 10 9])
 (.seq (.cond (.t 11) .skip (.exit 0))
 (.seq (.block 1 (.seq (.rg [Im 12 10,zF 13 1 8 10,Il 14 1 13,Im 4 12,Im 5 14])
 (.seq (.rg [Im 16 5,Io 17 (.call 515 [(.t 16)]),Im 15 17,zr 18 15 0,zr 19 15 1,Im 6 18,Im 7 19])
 (.seq (.seq (.rg [Im 20 4,zN 21 20 0,Im 22 21,Fm 23 22 7,Jf 24 22 (.not (.t 23)),ye 25 22 24])
 (.cond (.t 25) (.exit 1) .skip))
 (.seq (.rg [Im 26 3,Io 27 (.bi .lss .i64 (.t 26) (.k (.int .i64 0))),Im 28 27,Fm 29 28 6,Fm 30 28 3,Jf 31 28 (.bi .lss .i64 (.t 29) (.t 30)),ye 32 28 31])
 (.cond (.t 32) (.rg [Im 33 6,Im 3 33]) .skip))))))
 (.rg [zC 34 10 1,Im 10 34])))))))
 (.seq (.rg [Im 35 3,Im 2 35])
 .ret)))))⟩
theorem ck478:za Tryz.prog 478 ir478=true:=by kernel_rfl
def ir479:zf:=⟨12,1,[.t 2],.seq (.rg [zh 2 false])
 (.seq (.rg [Im 6 0,Io 7 (.call 515 [(.t 6)]),Im 5 7,zr 8 5 0,zr 9 5 1,Im 3 8,Im 4 9])
 (.seq (.rg [Im 10 4,zW 11 10,Im 2 11])
 .ret))⟩
theorem ck479:za Tryz.prog 479 ir479=true:=by kernel_rfl
def ir481:zf:=⟨44,1,[.t 2,.t 3],.seq (.rg [zj 2 0,zh 3 false])
 (.seq (.seq (.rg [Im 7 0,WW 8 7,Io 9 (.bi .lss .i64 (.t 8) (.k (.int .i64 4)))])
 (.cond (.t 9) (.seq (.rg [zj 2 0,zh 3 false])
 .ret) .skip))
 (.seq (.rg [zj 4 0])
 (.seq (.seq (.rg [zj 10 0])
 (.block 0 (.loop [0,4,10] (.seq (.rg [Io 11 (.bi .lss .i64 (.t 10) (.k (.int .i64 4)))])
 (.seq (.cond (.t 11) .skip (.exit 0))
 (.seq (.block 1 (.seq (.rg [Im 12 10,Im 5 12])
 (.seq (.rg [Im 13 0,Im 14 5,Io 15 (.ixs (.t 13) (.t 14)),Io 16 (.bi .or .u8 (.t 15) (.k (.int .u8 32))),Io 17 (.call 190 [(.k (.str [48,49,50,51,52,53,54,55,56,57,97,98,99,100,101,102])),(.t 16)]),Im 6 17])
 (.seq (.seq (.rg [Im 18 6,Io 19 (.bi .lss .i64 (.t 18) (.k (.int .i64 0))),Im 20 19,Fm 21 20 0,Fm 22 20 5,Jf 23 20 (.ixs (.t 21) (.t 22)),Jf 24 20 (.bi .lss .u8 (.t 23) (.k (.int .u8 48))),ye 25 20 24,Im 26 25,Fm 27 26 0,Fm 28 26 5,Jf 29 26 (.ixs (.t 27) (.t 28)),Jf 30 26 (.bi .gtr .u8 (.t 29) (.k (.int .u8 57))),Fm 31 26 30,Jm 32 31 0,Jm 33 31 5,Jt 34 31 (.ixs (.t 32) (.t 33)),Jt 35 31 (.bi .lss .u8 (.t 34) (.k (.int .u8 65))),Jf 36 26 (.pick (.t 31) (.t 35) (.k (.bool false))),ye 37 26 36])
 (.cond (.t 37) (.seq (.rg [zj 2 0,zh 3 false])
 .ret) .skip))
 (.rg [Im 38 4,Io 39 (.bi .mul .i64 (.k (.int .i64 16)) (.t 38)),Im 40 6,XM 41 39 40,Im 4 41])))))
 (.rg [zC 42 10 1,Im 10 42])))))))
 (.seq (.rg [Im 43 4,Im 2 43,zh 3 true])
 .ret))))⟩
theorem ck481:za Tryz.prog 481 ir481=true:=by kernel_rfl
def ir482:zf:=⟨75,1,[.t 2,.t 3],.seq (.rg [Io 2 (.mv (.k (.str []))),zh 3 false])
 (.seq (.rg [Io 4 (.mv (.k (.sl .nil 1 [])))])
 (.seq (.seq (.rg [zj 5 0])
 (.block 0 (.loop [0,4,5] (.seq (.seq (.rg [Im 7 5,Im 8 0,zD 9 8,zK 10 7 9])
 (.cond (.t 10) .skip (.exit 0)))
 (.seq (.block 1 (.seq (.rg [Im 13 0,Im 14 5,zF 15 1 13 14,Il 16 1 15,Im 6 16])
 (.seq (.block 2 (.seq (.rg [Im 18 6,Io 19 (.bi .lss .i64 (.t 18) (.k (.int .i64 0))),Im 20 19,Fm 21 20 6,Jf 22 20 (.bi .gtr .i64 (.t 21) (.k (.int .i64 65535))),ye 23 20 22,Im 24 23,Fm 25 24 6,Jf 26 24 (.bi .geq .i64 (.t 25) (.k (.int .i64 56320))),Fm 27 24 26,Jm 28 27 6,Jt 29 27 (.bi .leq .i64 (.t 28) (.k (.int .i64 57343))),Jf 30 24 (.pick (.t 27) (.t 29) (.k (.bool false))),ye 31 24 30,Im 17 31])
 (.cond (.t 17) (.seq (.rg [Io 2 (.mv (.k (.str []))),zh 3 false])
 .ret) (.seq (.rg [Im 33 6,Io 34 (.bi .geq .i64 (.t 33) (.k (.int .i64 55296))),Im 35 34,Jm 36 35 6,Jt 37 35 (.bi .lss .i64 (.t 36) (.k (.int .i64 56320))),zI 38 35 37,Im 32 38])
 (.cond (.t 32) (.seq (.rg [Im 39 5,zC 40 39 1,Im 5 40])
 (.seq (.seq (.rg [Im 41 5,Im 42 0,zD 43 42,Io 44 (.bi .eql .i64 (.t 41) (.t 43)),Im 45 44,Fm 46 45 0,Fm 47 45 5,Jf 48 45 (.ia 1 (.t 46) (.t 47)),Fl 49 45 1 48,Jf 50 45 (.bi .lss .i64 (.t 49) (.k (.int .i64 56320))),ye 51 45 50,Im 52 51,Fm 53 52 0,Fm 54 52 5,Jf 55 52 (.ia 1 (.t 53) (.t 54)),Fl 56 52 1 55,Jf 57 52 (.bi .gtr .i64 (.t 56) (.k (.int .i64 57343))),ye 58 52 57])
 (.cond (.t 58) (.seq (.rg [Io 2 (.mv (.k (.str []))),zh 3 false])
 .ret) .skip))
 (.rg [Im 59 6,VA 60 59 55296,Io 61 (.bi .mul .i64 (.k (.int .i64 1024)) (.t 60)),Io 62 (.bi .add .i64 (.k (.int .i64 65536)) (.t 61)),Im 63 0,Im 64 5,zF 65 1 63 64,Il 66 1 65,XM 67 62 66,VA 68 67 56320,Im 6 68]))) .skip)))))
 (.rg [Im 69 4,Im 70 6,Io 71 (.cvi .i32 (.t 70)),Io 72 (.call 519 [(.t 69),(.t 71)]),Im 4 72]))))
 (.rg [Im 11 5,zC 12 11 1,Im 5 12]))))))
 (.seq (.rg [Im 73 4,Io 74 (.cvb2s (.t 73)),Im 2 74,zh 3 true])
 .ret)))⟩
theorem ck482:za Tryz.prog 482 ir482=true:=by kernel_rfl
def ir483:zf:=⟨68,2,[],.seq (.rg [zp 2 0,zp 3 1])
 (.seq (.rg [If 4 0 3,Il 5 1 4])
 (.block 0 (.seq (.rg [zN 10 5 1,Im 9 10])
 (.cond (.t 9) (.rg [zc 11 1 2,zc 12 6 3,Io 13 (.call 520 [(.t 11),(.k (.str [116,121,112,101])),(.t 12)])]) (.seq (.rg [zN 15 5 2,Im 14 15])
 (.cond (.t 14) (.rg [zc 16 1 2,zc 17 6 3,Io 18 (.call 520 [(.t 16),(.k (.str [105,110,116,101,114,102,97,99,101])),(.t 17)])]) (.seq (.seq (.rg [zN 20 5 3,Im 19 20])
 (.cond (.t 19) .skip (.rg [zN 21 5 4,Im 19 21])))
 (.cond (.t 19) (.rg [zc 22 1 2,zc 23 6 3,Io 24 (.call 521 [(.t 22),(.t 23)])]) (.seq (.rg [zN 26 5 5,Im 25 26])
 (.cond (.t 25) (.seq (.rg [If 27 0 2,Il 28 1 27,If 29 5 3,Il 30 1 29,zD 31 30,YV 32 31 0,Im 33 32,Ja 34 33 2 3,Jl 35 33 1 34,Jt 36 33 (.len (.t 35)),Ja 37 33 3 3,Jl 38 33 1 37,Jt 39 33 (.len (.t 38)),Jt 40 33 (.bi .add .i64 (.t 36) (.t 39)),Ja 41 33 4 3,Jl 42 33 1 41,Jt 43 33 (.len (.t 42)),Jt 44 33 (.bi .add .i64 (.t 40) (.t 43)),Jt 45 33 (.bi .eql .i64 (.t 44) (.k (.int .i64 0))),zI 46 33 45,Io 47 (.call 198 [(.t 28),(.t 46)])])
 (.seq (.rg [If 48 0 2,Il 49 1 48,Io 50 (.call 325 [(.t 49),(.k (.str [105,110,112,117,116]))])])
 (.seq (.rg [If 51 0 2,Il 52 1 51,If 53 1 3,Il 54 1 53,Io 55 (.call 325 [(.t 52),(.t 54)])])
 (.seq (.rg [If 56 0 2,Il 57 1 56,Io 58 (.bls 1 1 [.str []] [(0,(.k (.str [123])))]),Io 59 (.call 326 [(.t 57),(.t 58)])])
 (.seq (.rg [zc 60 1 2,If 61 5 3,Il 62 1 61,Io 63 (.call 522 [(.t 60),(.t 62)])])
 (.rg [If 64 0 2,Il 65 1 64,Io 66 (.bls 1 1 [.str []] [(0,(.k (.str [125])))]),Io 67 (.call 326 [(.t 65),(.t 66)])])))))) (.rg [If 6 0 2,Il 7 1 6,Io 8 (.call 198 [(.t 7),(.k (.bool false))])])))))))))))⟩
theorem ck483:za Tryz.prog 483 ir483=true:=by kernel_rfl
def ir484:zf:=⟨19,2,[.t 4],.seq (.rg [zj 4 0])
 (.seq (.seq (.rg [Im 6 0,zD 7 6,zj 8 0])
 (.block 0 (.loop [0,1,7,8] (.seq (.rg [zK 9 8 7])
 (.seq (.cond (.t 9) .skip (.exit 0))
 (.seq (.block 1 (.seq (.rg [Im 10 8,Im 5 10])
 (.seq (.rg [Im 11 1,Im 12 0,Im 13 5,zF 14 1 12 13,Il 15 1 14,Io 16 (.bi .eql .i64 (.t 11) (.t 15))])
 (.cond (.t 16) (.seq (.rg [Im 17 5,Im 4 17])
 .ret) .skip))))
 (.rg [zC 18 8 1,Im 8 18])))))))
 (.seq (.rg [Io 4 (.mv (.k (.int .i64 (-1))))])
 .ret))⟩
theorem ck484:za Tryz.prog 484 ir484=true:=by kernel_rfl
def ir488:zf:=⟨32,3,[.t 6],.seq (.rg [zh 6 false])
 (.seq (.seq (.rg [Im 10 0,zD 11 10,Im 12 1,zD 13 12,Io 14 (.bi .neq .i64 (.t 11) (.t 13))])
 (.cond (.t 14) (.seq (.rg [zh 6 false])
 .ret) .skip))
 (.seq (.seq (.rg [Im 15 0,zD 16 15,zj 17 0])
 (.block 0 (.loop [1,2,15,16,17] (.seq (.rg [zK 18 17 16])
 (.seq (.cond (.t 18) .skip (.exit 0))
 (.seq (.block 1 (.seq (.rg [Im 19 17,zF 20 5 15 17,zc 21 5 20,Io 8 (.alloc [.int .i64 0,.int .i64 0,.str [],.sl .nil 5 [],.sl .nil 6 []]),Im 7 19,⟨none,none,.st 5 (.t 8) (.t 21),[]⟩])
 (.seq (.rg [Im 22 1,Im 23 7,zF 24 5 22 23,zc 25 5 24,Io 9 (.alloc [.int .i64 0,.int .i64 0,.str [],.sl .nil 5 [],.sl .nil 6 []]),⟨none,none,.st 5 (.t 9) (.t 25),[]⟩])
 (.seq (.rg [Im 26 2,zc 27 5 8,zc 28 5 9,Io 29 (.callv (.t 26) [(.t 27),(.t 28)]),zW 30 29])
 (.cond (.t 30) (.seq (.rg [zh 6 false])
 .ret) .skip)))))
 (.rg [zC 31 17 1,Im 17 31])))))))
 (.seq (.rg [zh 6 true])
 .ret)))⟩
theorem ck488:za Tryz.prog 488 ir488=true:=by kernel_rfl
def ir489:zf:=⟨32,3,[.t 6],.seq (.rg [zh 6 false])
 (.seq (.seq (.rg [Im 10 0,zD 11 10,Im 12 1,zD 13 12,Io 14 (.bi .neq .i64 (.t 11) (.t 13))])
 (.cond (.t 14) (.seq (.rg [zh 6 false])
 .ret) .skip))
 (.seq (.seq (.rg [Im 15 0,zD 16 15,zj 17 0])
 (.block 0 (.loop [1,2,15,16,17] (.seq (.rg [zK 18 17 16])
 (.seq (.cond (.t 18) .skip (.exit 0))
 (.seq (.block 1 (.seq (.rg [Im 19 17,zF 20 6 15 17,zc 21 6 20,Io 8 (.alloc [.str [],.int .i64 0,.int .i64 0,.str [],.sl .nil 5 [],.sl .nil 6 []]),Im 7 19,⟨none,none,.st 6 (.t 8) (.t 21),[]⟩])
 (.seq (.rg [Im 22 1,Im 23 7,zF 24 6 22 23,zc 25 6 24,Io 9 (.alloc [.str [],.int .i64 0,.int .i64 0,.str [],.sl .nil 5 [],.sl .nil 6 []]),⟨none,none,.st 6 (.t 9) (.t 25),[]⟩])
 (.seq (.rg [Im 26 2,zc 27 6 8,zc 28 6 9,Io 29 (.callv (.t 26) [(.t 27),(.t 28)]),zW 30 29])
 (.cond (.t 30) (.seq (.rg [zh 6 false])
 .ret) .skip)))))
 (.rg [zC 31 17 1,Im 17 31])))))))
 (.seq (.rg [zh 6 true])
 .ret)))⟩
theorem ck489:za Tryz.prog 489 ir489=true:=by kernel_rfl
def ir490:zf:=⟨17,2,[.t 4],.seq (.rg [zp 2 0,zp 3 1,zh 4 false])
 (.seq (.rg [If 5 0 2,Il 6 1 5,If 7 0 3,Il 8 1 7,Io 9 (.bs .eql (.t 6) (.t 8)),Im 10 9,Ja 11 10 1 2,Jt 12 10 (.ld 5 true (.t 11)),Ja 13 10 1 3,Jt 14 10 (.ld 5 true (.t 13)),Jt 15 10 (.call 425 [(.t 12),(.t 14)]),zI 16 10 15,Im 4 16])
 .ret)⟩
theorem ck490:za Tryz.prog 490 ir490=true:=by kernel_rfl
def ir491:zf:=⟨9,1,[.t 2,.t 3],.seq (.rg [zp 1 0,Io 2 (.mv (.k (.sl .nil 2 []))),zh 3 false])
 (.seq (.seq (.rg [zc 4 5 1,Io 5 (.call 529 [(.t 4)]),zW 6 5])
 (.cond (.t 6) (.seq (.rg [Io 2 (.mv (.k (.sl .nil 2 []))),zh 3 false])
 .ret) .skip))
 (.seq (.rg [zc 7 5 1,Io 8 (.call 530 [(.k (.sl .nil 2 [])),(.t 7)]),Im 2 8,zh 3 true])
 .ret))⟩
theorem ck491:za Tryz.prog 491 ir491=true:=by kernel_rfl
def ir492:zf:=⟨41,1,[.t 2],.seq (.rg [zp 1 0,zj 2 0])
 (.seq (.rg [zj 3 0])
 (.seq (.seq (.rg [If 8 0 1,Il 9 1 8])
 (.block 0 (.seq (.rg [zN 11 9 6,Im 10 11])
 (.cond (.t 10) (.seq (.rg [If 12 3 1,Il 13 1 12,zD 14 13,zj 15 0])
 (.block 1 (.loop [3,13,14,15] (.seq (.rg [zK 16 15 14])
 (.seq (.cond (.t 16) .skip (.exit 1))
 (.seq (.block 2 (.seq (.rg [zF 17 5 13 15,zc 18 5 17,Io 5 (.alloc [.int .i64 0,.int .i64 0,.str [],.sl .nil 5 [],.sl .nil 6 []]),⟨none,none,.st 5 (.t 5) (.t 18),[]⟩])
 (.rg [Im 19 3,zc 20 5 5,Io 21 (.call 492 [(.t 20)]),Io 22 (.mm true (.t 19) [(.t 21)]),Im 3 22])))
 (.rg [zC 23 15 1,Im 15 23]))))))) (.seq (.rg [zN 25 9 7,Im 24 25])
 (.cond (.t 24) (.seq (.rg [If 26 4 1,Il 27 1 26,zD 28 27,zj 29 0])
 (.block 3 (.loop [3,27,28,29] (.seq (.rg [zK 30 29 28])
 (.seq (.cond (.t 30) .skip (.exit 3))
 (.seq (.block 4 (.seq (.rg [zF 31 6 27 29,zc 32 6 31,Io 7 (.alloc [.str [],.int .i64 0,.int .i64 0,.str [],.sl .nil 5 [],.sl .nil 6 []]),⟨none,none,.st 6 (.t 7) (.t 32),[]⟩])
 (.rg [Im 33 3,If 34 1 7,zc 35 5 34,Io 36 (.call 492 [(.t 35)]),Io 37 (.mm true (.t 33) [(.t 36)]),Im 3 37])))
 (.rg [zC 38 29 1,Im 29 38]))))))) (.seq (.rg [zj 2 0])
 .ret)))))))
 (.seq (.rg [Im 39 3,zC 40 39 1,Im 2 40])
 .ret)))⟩
theorem ck492:za Tryz.prog 492 ir492=true:=by kernel_rfl
def ir493:zf:=⟨5,1,[.t 2],.seq (.rg [zp 1 0,Io 2 (.mv (.k (.sl .nil 1 [])))])
 (.seq (.rg [zc 3 5 1,Io 4 (.call 531 [(.k (.sl .nil 1 [])),(.t 3)]),Im 2 4])
 .ret)⟩
theorem ck493:za Tryz.prog 493 ir493=true:=by kernel_rfl
def ir494:zf:=⟨42,2,[],.seq (.rg [zp 3 1])
 (.seq (.rg [Im 4 0,If 5 1 3,Il 6 1 5,Io 7 (.bs .eql (.t 6) (.k (.str []))),Im 8 7,Ja 9 8 3 3,Jl 10 8 1 9,Jt 11 8 (.len (.t 10)),Jt 12 8 (.bi .eql .i64 (.t 11) (.k (.int .i64 0))),zI 13 8 12,Im 14 13,Ja 15 14 5 3,Jl 16 14 1 15,Jt 17 14 (.bs .eql (.t 16) (.k (.str []))),zI 18 14 17,Im 19 18,Ja 20 19 6 3,Jl 21 19 1 20,Jt 22 19 (.len (.t 21)),Jt 23 19 (.bi .eql .i64 (.t 22) (.k (.int .i64 0))),zI 24 19 23,Im 25 24,Ja 26 25 2 3,Jl 27 25 1 26,Jt 28 25 (.bs .neq (.t 27) (.k (.str [111,110]))),zI 29 25 28,Io 30 (.call 198 [(.t 4),(.t 29)])])
 (.seq (.rg [Im 31 0,Io 32 (.bls 1 1 [.str []] [(0,(.k (.str [46,46,46])))]),Io 33 (.call 326 [(.t 31),(.t 32)])])
 (.seq (.rg [Im 34 0,If 35 2 3,Il 36 1 35,Io 37 (.call 325 [(.t 34),(.t 36)])])
 (.rg [Im 38 0,If 39 4 3,Il 40 1 39,Io 41 (.call 329 [(.t 38),(.k (.bool false)),(.t 40)])]))))⟩
theorem ck494:za Tryz.prog 494 ir494=true:=by kernel_rfl
def ir495:zf:=⟨40,2,[],.seq (.rg [zp 3 1])
 (.seq (.rg [Im 4 0,If 5 1 3,Il 6 1 5,Io 7 (.bs .eql (.t 6) (.k (.str []))),Im 8 7,Ja 9 8 2 3,Jl 10 8 1 9,Jt 11 8 (.bs .eql (.t 10) (.k (.str []))),zI 12 8 11,Im 13 12,Ja 14 13 3 3,Jl 15 13 1 14,Jt 16 13 (.len (.t 15)),Jt 17 13 (.bi .eql .i64 (.t 16) (.k (.int .i64 0))),zI 18 13 17,Io 19 (.call 198 [(.t 4),(.t 18)])])
 (.seq (.rg [Im 20 0,Io 21 (.bls 1 1 [.str []] [(0,(.k (.str [46,46,46])))]),Io 22 (.call 326 [(.t 20),(.t 21)])])
 (.seq (.seq (.rg [If 23 5 3,Il 24 1 23,Io 25 (.bs .neq (.t 24) (.k (.str [])))])
 (.cond (.t 25) (.seq (.rg [Im 26 0,Io 27 (.call 325 [(.t 26),(.k (.str [111,110]))])])
 (.rg [Im 28 0,If 29 5 3,Il 30 1 29,Io 31 (.call 325 [(.t 28),(.t 30)])])) .skip))
 (.seq (.rg [Im 32 0,If 33 4 3,Il 34 1 33,Io 35 (.call 329 [(.t 32),(.k (.bool false)),(.t 34)])])
 (.rg [Im 36 0,If 37 6 3,Il 38 1 37,Io 39 (.call 330 [(.t 36),(.t 38)])])))))⟩
theorem ck495:za Tryz.prog 495 ir495=true:=by kernel_rfl
def ir496:zf:=⟨19,2,[.t 4],.seq (.rg [zj 4 0])
 (.seq (.seq (.rg [Im 6 0,zD 7 6,zj 8 0])
 (.block 0 (.loop [0,1,7,8] (.seq (.rg [zK 9 8 7])
 (.seq (.cond (.t 9) .skip (.exit 0))
 (.seq (.block 1 (.seq (.rg [Im 10 8,Im 5 10])
 (.seq (.rg [Im 11 1,Im 12 0,Im 13 5,zF 14 7 12 13,zc 15 7 14,Io 16 (.callv (.t 11) [(.t 15)])])
 (.cond (.t 16) (.seq (.rg [Im 17 5,Im 4 17])
 .ret) .skip))))
 (.rg [zC 18 8 1,Im 8 18])))))))
 (.seq (.rg [Io 4 (.mv (.k (.int .i64 (-1))))])
 .ret))⟩
theorem ck496:za Tryz.prog 496 ir496=true:=by kernel_rfl
def ir511:zf:=⟨58,5,[],.seq (.rg [Im 12 2,Im 13 1,Io 14 (.bi .sub .i64 (.t 12) (.t 13)),Im 10 14])
 (.seq (.rg [Im 15 3,Im 16 2,Io 17 (.bi .sub .i64 (.t 15) (.t 16)),Im 11 17])
 (.seq (.block 0 (.loop [0,2,4,10,11] (.seq (.seq (.rg [Im 18 10,Im 19 11,Io 20 (.bi .neq .i64 (.t 18) (.t 19))])
 (.cond (.t 20) .skip (.exit 0)))
 (.block 1 (.seq (.rg [Im 21 10,Im 22 11,Io 23 (.bi .gtr .i64 (.t 21) (.t 22))])
 (.cond (.t 23) (.seq (.rg [Im 24 0,Im 25 2,Im 26 10,Io 27 (.bi .sub .i64 (.t 25) (.t 26)),Im 28 2,Im 29 11,Im 30 4,Io 31 (.call 539 [(.t 24),(.t 27),(.t 28),(.t 29),(.t 30)])])
 (.rg [Im 32 10,Im 33 11,Io 34 (.bi .sub .i64 (.t 32) (.t 33)),Im 10 34])) (.seq (.rg [Im 35 0,Im 36 2,Im 37 10,Io 38 (.bi .sub .i64 (.t 36) (.t 37)),Im 39 2,Im 40 11,XM 41 39 40,Im 42 10,Io 43 (.bi .sub .i64 (.t 41) (.t 42)),Im 44 10,Im 45 4,Io 46 (.call 539 [(.t 35),(.t 38),(.t 43),(.t 44),(.t 45)])])
 (.rg [Im 47 11,Im 48 10,Io 49 (.bi .sub .i64 (.t 47) (.t 48)),Im 11 49]))))))))
 (.rg [Im 50 0,Im 51 2,Im 52 10,Io 53 (.bi .sub .i64 (.t 51) (.t 52)),Im 54 2,Im 55 10,Im 56 4,Io 57 (.call 539 [(.t 50),(.t 53),(.t 54),(.t 55),(.t 56)])])))⟩
theorem ck511:za Tryz.prog 511 ir511=true:=by kernel_rfl
def ir512:zf:=⟨19,2,[.t 4],.seq (.rg [zj 4 0])
 (.seq (.seq (.rg [Im 6 0,zD 7 6,zj 8 0])
 (.block 0 (.loop [0,1,7,8] (.seq (.rg [zK 9 8 7])
 (.seq (.cond (.t 9) .skip (.exit 0))
 (.seq (.block 1 (.seq (.rg [Im 10 8,Im 5 10])
 (.seq (.rg [Im 11 1,Im 12 0,Im 13 5,zF 14 2 12 13,zc 15 2 14,Io 16 (.callv (.t 11) [(.t 15)])])
 (.cond (.t 16) (.seq (.rg [Im 17 5,Im 4 17])
 .ret) .skip))))
 (.rg [zC 18 8 1,Im 8 18])))))))
 (.seq (.rg [Io 4 (.mv (.k (.int .i64 (-1))))])
 .ret))⟩
theorem ck512:za Tryz.prog 512 ir512=true:=by kernel_rfl
def ir515:zf:=⟨24,1,[.t 2,.t 3],.seq (.rg [zj 2 0,zh 3 false])
 (.seq (.seq (.rg [Im 5 0,WW 6 5,zj 7 0])
 (.block 0 (.loop [0,6,7] (.seq (.rg [zK 8 7 6])
 (.seq (.cond (.t 8) .skip (.exit 0))
 (.seq (.block 1 (.seq (.rg [Im 9 7,Im 4 9])
 (.seq (.rg [Im 10 0,Im 11 4,Io 12 (.ixs (.t 10) (.t 11)),Io 13 (.bi .neq .u8 (.t 12) (.k (.int .u8 9))),Im 14 13,Jm 15 14 0,Jm 16 14 4,Jt 17 14 (.ixs (.t 15) (.t 16)),Jt 18 14 (.bi .neq .u8 (.t 17) (.k (.int .u8 32))),zI 19 14 18])
 (.cond (.t 19) (.seq (.rg [Im 20 4,Im 2 20,zh 3 true])
 .ret) .skip))))
 (.rg [zC 21 7 1,Im 7 21])))))))
 (.seq (.rg [Im 22 0,WW 23 22,Im 2 23,zh 3 false])
 .ret))⟩
theorem ck515:za Tryz.prog 515 ir515=true:=by kernel_rfl
def ir519:zf:=⟨16,2,[.t 4],.seq (.rg [Io 4 (.mv (.k (.sl .nil 1 [])))])
 (.seq (.seq (.rg [Im 5 1,Io 6 (.cvi .u32 (.t 5)),Io 7 (.bi .leq .u32 (.t 6) (.k (.int .u32 127)))])
 (.cond (.t 7) (.seq (.rg [Im 8 0,Im 9 1,Io 10 (.cvi .u8 (.t 9)),Io 11 (.bls 1 1 [.int .u8 0] [(0,(.t 10))]),z1 12 1 1 8 11,Im 4 12])
 .ret) .skip))
 (.seq (.rg [Im 13 0,Im 14 1,Io 15 (.call 542 [(.t 13),(.t 14)]),Im 4 15])
 .ret))⟩
theorem ck519:za Tryz.prog 519 ir519=true:=by kernel_rfl
def ir520:zf:=⟨55,3,[],.seq (.rg [zp 3 0,zp 5 2])
 (.seq (.rg [If 6 0 3,Il 7 1 6,If 8 3 5,Il 9 1 8,zD 10 9,YV 11 10 0,Im 12 11,Ja 13 12 4 5,Jl 14 12 1 13,Jt 15 12 (.len (.t 14)),Ja 16 12 5 5,Jl 17 12 1 16,Jt 18 12 (.len (.t 17)),Jt 19 12 (.bi .add .i64 (.t 15) (.t 18)),Jt 20 12 (.bi .eql .i64 (.t 19) (.k (.int .i64 0))),zI 21 12 20,Io 22 (.call 198 [(.t 7),(.t 21)])])
 (.seq (.rg [If 23 0 3,Il 24 1 23,Im 25 1,Io 26 (.call 325 [(.t 24),(.t 25)])])
 (.seq (.rg [If 27 0 3,Il 28 1 27,If 29 1 5,Il 30 1 29,Io 31 (.call 325 [(.t 28),(.t 30)])])
 (.seq (.seq (.rg [If 32 2 5,Il 33 1 32,zD 34 33,YV 35 34 0])
 (.cond (.t 35) (.seq (.rg [If 36 0 3,Il 37 1 36,Io 38 (.call 325 [(.t 37),(.k (.str [105,109,112,108,101,109,101,110,116,115]))])])
 (.rg [zc 39 1 3,If 40 2 5,Il 41 1 40,Io 42 (.call 543 [(.t 39),(.k (.str [38])),(.t 41)])])) .skip))
 (.seq (.rg [If 43 0 3,Il 44 1 43,Io 45 (.bls 1 1 [.str []] [(0,(.k (.str [123])))]),Io 46 (.call 326 [(.t 44),(.t 45)])])
 (.seq (.rg [zc 47 1 3,If 48 3 5,Il 49 1 48,Io 50 (.call 544 [(.t 47),(.t 49)])])
 (.rg [If 51 0 3,Il 52 1 51,Io 53 (.bls 1 1 [.str []] [(0,(.k (.str [125])))]),Io 54 (.call 326 [(.t 52),(.t 53)])])))))))⟩
theorem ck520:za Tryz.prog 520 ir520=true:=by kernel_rfl
def ir521:zf:=⟨87,2,[],.seq (.rg [zp 2 0,zp 3 1])
 (.seq (.rg [If 6 0 2,Il 7 1 6,If 8 4 3,Il 9 1 8,zD 10 9,YV 11 10 0,Im 12 11,Ja 13 12 2 3,Jl 14 12 1 13,Jt 15 12 (.len (.t 14)),Ja 16 12 3 3,Jl 17 12 1 16,Jt 18 12 (.len (.t 17)),Jt 19 12 (.bi .add .i64 (.t 15) (.t 18)),Ja 20 12 5 3,Jl 21 12 1 20,Jt 22 12 (.len (.t 21)),Jt 23 12 (.bi .add .i64 (.t 19) (.t 22)),Jt 24 12 (.bi .eql .i64 (.t 23) (.k (.int .i64 0))),zI 25 12 24,Io 26 (.call 198 [(.t 7),(.t 25)])])
 (.seq (.seq (.rg [If 27 0 3,Il 28 1 27,zN 29 28 3])
 (.cond (.t 29) (.seq (.rg [If 30 0 2,Il 31 1 30,Io 32 (.call 325 [(.t 31),(.k (.str [117,110,105,111,110]))])])
 (.seq (.rg [If 33 0 2,Il 34 1 33,If 35 1 3,Il 36 1 35,Io 37 (.call 325 [(.t 34),(.t 36)])])
 (.seq (.rg [If 38 0 2,Il 39 1 38,Io 40 (.bls 1 1 [.str []] [(0,(.k (.str [61])))]),Io 41 (.call 326 [(.t 39),(.t 40)])])
 (.seq (.rg [zc 42 1 2,If 43 4 3,Il 44 1 43,Io 45 (.call 543 [(.t 42),(.k (.str [124])),(.t 44)])])
 .ret)))) .skip))
 (.seq (.rg [If 46 0 2,Il 47 1 46,Io 48 (.call 325 [(.t 47),(.k (.str [101,110,117,109]))])])
 (.seq (.rg [If 49 0 2,Il 50 1 49,If 51 1 3,Il 52 1 51,Io 53 (.call 325 [(.t 50),(.t 52)])])
 (.seq (.rg [If 54 0 2,Il 55 1 54,Io 56 (.bls 1 1 [.str []] [(0,(.k (.str [123])))]),Io 57 (.call 326 [(.t 55),(.t 56)])])
 (.seq (.seq (.rg [If 58 4 3,Il 59 1 58,zD 60 59,zj 61 0])
 (.block 0 (.loop [2,59,60,61] (.seq (.rg [zK 62 61 60])
 (.seq (.cond (.t 62) .skip (.exit 0))
 (.seq (.block 1 (.seq (.rg [zF 63 1 59 61,Il 64 1 63,Im 5 64])
 (.seq (.rg [If 65 0 2,Il 66 1 65,Im 67 5,Io 68 (.bs .neq (.t 67) (.k (.str [116,114,117,101]))),Im 69 68,Jm 70 69 5,Jt 71 69 (.bs .neq (.t 70) (.k (.str [102,97,108,115,101]))),zI 72 69 71,Im 73 72,Jm 74 73 5,Jt 75 73 (.bs .neq (.t 74) (.k (.str [110,117,108,108]))),zI 76 73 75,Io 77 (.call 198 [(.t 66),(.t 76)])])
 (.rg [If 78 0 2,Il 79 1 78,Im 80 5,Io 81 (.call 325 [(.t 79),(.t 80)])]))))
 (.rg [zC 82 61 1,Im 61 82])))))))
 (.rg [If 83 0 2,Il 84 1 83,Io 85 (.bls 1 1 [.str []] [(0,(.k (.str [125])))]),Io 86 (.call 326 [(.t 84),(.t 85)])])))))))⟩
theorem ck521:za Tryz.prog 521 ir521=true:=by kernel_rfl
def ir522:zf:=⟨34,2,[],.seq (.rg [zp 2 0])
 (.seq (.rg [Im 6 1,zD 7 6,zj 8 0])
 (.block 0 (.loop [2,6,7,8] (.seq (.rg [zK 9 8 7])
 (.seq (.cond (.t 9) .skip (.exit 0))
 (.seq (.block 1 (.seq (.rg [zF 10 10 6 8,zc 11 10 10,Io 5 (.alloc [.str [],.str [],.int .i64 0,.int .i64 0,.bool false,.int .i64 0,.int .i64 0,.str [],.sl .nil 5 [],.sl .nil 6 []]),⟨none,none,.st 10 (.t 5) (.t 11),[]⟩])
 (.seq (.rg [If 12 0 2,Il 13 1 12,If 14 0 5,Il 15 1 14,Io 16 (.call 325 [(.t 13),(.t 15)])])
 (.seq (.rg [If 17 0 2,Il 18 1 17,Io 19 (.bls 1 1 [.str []] [(0,(.k (.str [58])))]),Io 20 (.call 326 [(.t 18),(.t 19)])])
 (.seq (.rg [If 21 0 2,Il 22 1 21,If 23 1 5,zc 24 3 23,Io 25 (.call 327 [(.t 22),(.t 24)])])
 (.rg [If 26 0 2,Il 27 1 26,If 28 4 5,Il 29 1 28,If 30 5 5,zc 31 5 30,Io 32 (.call 328 [(.t 27),(.t 29),(.t 31)])]))))))
 (.rg [zC 33 8 1,Im 8 33])))))))⟩
theorem ck522:za Tryz.prog 522 ir522=true:=by kernel_rfl
def ir529:zf:=⟨10,1,[.t 2],.seq (.rg [zp 1 0,zh 2 false])
 (.seq (.rg [zc 3 5 1,Io 4 (.call 132 [(.t 3),(.k (.clo 374 [] []))]),Im 5 4,Jt 6 5 (.ld 5 true (.t 1)),Jt 7 5 (.call 492 [(.t 6)]),Jt 8 5 (.bi .leq .i64 (.t 7) (.k (.int .i64 16))),zI 9 5 8,Im 2 9])
 .ret)⟩
theorem ck529:za Tryz.prog 529 ir529=true:=by kernel_rfl
def ir530:zf:=⟨119,2,[.t 4],.seq (.rg [zp 3 1,Io 4 (.mv (.k (.sl .nil 2 [])))])
 (.seq (.seq (.rg [If 9 0 3,Il 10 1 9])
 (.block 0 (.seq (.rg [zN 12 10 0,Im 11 12])
 (.cond (.t 11) (.seq (.rg [Im 13 0,Io 14 (.call 549 [(.k (.str [110,117,108,108]))]),Io 15 (.bls 2 1 [.int .i64 0,.str []] [(0,(.t 14))]),z1 16 2 24 13 15,Im 4 16])
 .ret) (.seq (.rg [zN 18 10 1,Im 17 18])
 (.cond (.t 17) (.seq (.rg [Im 19 0,If 20 1 3,Il 21 1 20,zN 22 21 1,Io 23 (.call 550 [(.t 22)]),Io 24 (.call 549 [(.t 23)]),Io 25 (.bls 2 1 [.int .i64 0,.str []] [(0,(.t 24))]),z1 26 2 24 19 25,Im 4 26])
 .ret) (.seq (.rg [zN 28 10 2,Im 27 28])
 (.cond (.t 27) (.seq (.rg [Im 29 0,If 30 1 3,Il 31 1 30,Io 32 (.call 502 [(.t 31),(.k (.int .i64 10))]),Io 33 (.bld [.int .i64 0,.str []] [(0,1,(.k (.int .i64 3))),(1,1,(.t 32))]),Io 34 (.bls 2 1 [.int .i64 0,.str []] [(0,(.t 33))]),z1 35 2 24 29 34,Im 4 35])
 .ret) (.seq (.rg [zN 37 10 3,Im 36 37])
 (.cond (.t 36) (.seq (.reg [0,1,2,4,5,3,6,7,8,9] [Im 38 0,If 39 2 3,Il 40 1 39,If 42 2 3,Il 43 1 42,⟨some 41,none,.call 319 [(.t 40)],[4]⟩,Io 44 (.bld [.int .i64 0,.str []] [(0,1,(.t 41)),(1,1,(.t 43))]),Io 45 (.bls 2 1 [.int .i64 0,.str []] [(0,(.t 44))]),z1 46 2 24 38 45,Im 4 46])
 .ret) (.seq (.rg [zN 48 10 4,Im 47 48])
 (.cond (.t 47) (.seq (.rg [Im 49 0,If 50 2 3,Il 51 1 50,Io 52 (.bld [.int .i64 0,.str []] [(0,1,(.k (.int .i64 5))),(1,1,(.t 51))]),Io 53 (.bls 2 1 [.int .i64 0,.str []] [(0,(.t 52))]),z1 54 2 24 49 53,Im 4 54])
 .ret) (.seq (.rg [zN 56 10 5,Im 55 56])
 (.cond (.t 55) (.seq (.rg [Im 57 0,If 58 2 3,Il 59 1 58,Io 60 (.call 549 [(.t 59)]),Io 61 (.bls 2 1 [.int .i64 0,.str []] [(0,(.t 60))]),z1 62 2 24 57 61,Im 4 62])
 .ret) (.seq (.rg [zN 64 10 8,Im 63 64])
 (.cond (.t 63) (.seq (.reg [0,2,3,1,4,5,6,7] [Im 65 0,If 67 2 3,Il 68 1 67,⟨some 66,none,.call 551 [(.k (.str [36]))],[2]⟩,Io 69 (.call 549 [(.t 68)]),Io 70 (.bls 2 2 [.int .i64 0,.str []] [(0,(.t 66)),(1,(.t 69))]),z1 71 2 24 65 70,Im 4 71])
 .ret) (.seq (.rg [zN 73 10 6,Im 72 73])
 (.cond (.t 72) (.seq (.rg [Im 74 0,Io 75 (.call 551 [(.k (.str [91]))]),Io 76 (.bls 2 1 [.int .i64 0,.str []] [(0,(.t 75))]),z1 77 2 24 74 76,Im 0 77])
 (.seq (.seq (.rg [If 78 3 3,Il 79 1 78,zD 80 79,zj 81 0])
 (.block 1 (.loop [0,79,80,81] (.seq (.rg [zK 82 81 80])
 (.seq (.cond (.t 82) .skip (.exit 1))
 (.seq (.block 2 (.seq (.rg [zF 83 5 79 81,zc 84 5 83,Io 6 (.alloc [.int .i64 0,.int .i64 0,.str [],.sl .nil 5 [],.sl .nil 6 []]),⟨none,none,.st 5 (.t 6) (.t 84),[]⟩])
 (.rg [Im 85 0,zc 86 5 6,Io 87 (.call 530 [(.t 85),(.t 86)]),Im 0 87])))
 (.rg [zC 88 81 1,Im 81 88])))))))
 (.seq (.rg [Im 89 0,Io 90 (.call 551 [(.k (.str [93]))]),Io 91 (.bls 2 1 [.int .i64 0,.str []] [(0,(.t 90))]),z1 92 2 24 89 91,Im 4 92])
 .ret))) .skip))))))))))))))))))
 (.seq (.rg [Im 93 0,Io 94 (.call 551 [(.k (.str [123]))]),Io 95 (.bls 2 1 [.int .i64 0,.str []] [(0,(.t 94))]),z1 96 2 24 93 95,Im 0 96])
 (.seq (.seq (.rg [If 97 4 3,Il 98 1 97,zD 99 98,zj 100 0])
 (.block 3 (.loop [0,98,99,100] (.seq (.rg [zK 101 100 99])
 (.seq (.cond (.t 101) .skip (.exit 3))
 (.seq (.block 4 (.seq (.rg [zF 102 6 98 100,zc 103 6 102,Io 8 (.alloc [.str [],.int .i64 0,.int .i64 0,.str [],.sl .nil 5 [],.sl .nil 6 []]),⟨none,none,.st 6 (.t 8) (.t 103),[]⟩])
 (.reg [0,1,2,7,8,3,4,5,6,9,10] [Im 104 0,If 105 0 8,Il 106 1 105,If 111 1 8,zc 112 5 111,⟨some 107,none,.call 549 [(.t 106)],[4]⟩,⟨some 108,none,.call 551 [(.k (.str [58]))],[4]⟩,Io 109 (.bls 2 2 [.int .i64 0,.str []] [(0,(.t 107)),(1,(.t 108))]),⟨some 110,none,.app 2 24 (.t 104) (.t 109),[4]⟩,Io 113 (.call 530 [(.t 110),(.t 112)]),Im 0 113])))
 (.rg [zC 114 100 1,Im 100 114])))))))
 (.seq (.rg [Im 115 0,Io 116 (.call 551 [(.k (.str [125]))]),Io 117 (.bls 2 1 [.int .i64 0,.str []] [(0,(.t 116))]),z1 118 2 24 115 117,Im 4 118])
 .ret))))⟩
theorem ck530:za Tryz.prog 530 ir530=true:=by kernel_rfl
def ir531:zf:=⟨51,2,[.t 4],.seq (.rg [zp 3 1,Io 4 (.mv (.k (.sl .nil 1 [])))])
 (.seq (.seq (.rg [If 9 0 3,Il 10 1 9])
 (.block 0 (.seq (.rg [zN 12 10 8,Im 11 12])
 (.cond (.t 11) (.seq (.rg [Im 13 0,If 14 2 3,Il 15 1 14,Io 16 (.call 148 [(.t 13),(.t 15)]),zW 17 16])
 (.cond (.t 17) (.rg [Im 18 0,If 19 2 3,Il 20 1 19,Io 21 (.bls 1 1 [.str []] [(0,(.t 20))]),z1 22 1 16 18 21,Im 0 22]) .skip)) (.seq (.rg [zN 24 10 6,Im 23 24])
 (.cond (.t 23) (.seq (.rg [If 25 3 3,Il 26 1 25,zD 27 26,zj 28 0])
 (.block 1 (.loop [0,26,27,28] (.seq (.rg [zK 29 28 27])
 (.seq (.cond (.t 29) .skip (.exit 1))
 (.seq (.block 2 (.seq (.rg [zF 30 5 26 28,zc 31 5 30,Io 6 (.alloc [.int .i64 0,.int .i64 0,.str [],.sl .nil 5 [],.sl .nil 6 []]),⟨none,none,.st 5 (.t 6) (.t 31),[]⟩])
 (.rg [Im 32 0,zc 33 5 6,Io 34 (.call 531 [(.t 32),(.t 33)]),Im 0 34])))
 (.rg [zC 35 28 1,Im 28 35]))))))) (.seq (.rg [zN 37 10 7,Im 36 37])
 (.cond (.t 36) (.seq (.rg [If 38 4 3,Il 39 1 38,zD 40 39,zj 41 0])
 (.block 3 (.loop [0,39,40,41] (.seq (.rg [zK 42 41 40])
 (.seq (.cond (.t 42) .skip (.exit 3))
 (.seq (.block 4 (.seq (.rg [zF 43 6 39 41,zc 44 6 43,Io 8 (.alloc [.str [],.int .i64 0,.int .i64 0,.str [],.sl .nil 5 [],.sl .nil 6 []]),⟨none,none,.st 6 (.t 8) (.t 44),[]⟩])
 (.rg [Im 45 0,If 46 1 8,zc 47 5 46,Io 48 (.call 531 [(.t 45),(.t 47)]),Im 0 48])))
 (.rg [zC 49 41 1,Im 41 49]))))))) .skip))))))))
 (.seq (.rg [Im 50 0,Im 4 50])
 .ret))⟩
theorem ck531:za Tryz.prog 531 ir531=true:=by kernel_rfl
def ir539:zf:=⟨38,5,[],.seq (.rg [zj 10 0])
 (.block 0 (.loop [0,1,2,3,10] (.seq (.seq (.rg [Im 11 10,Im 12 3,zK 13 11 12])
 (.cond (.t 13) .skip (.exit 0)))
 (.seq (.block 1 (.reg [0,1,2,3,4,5,6,7,8,9,10,11,12,13,14,15,16,17,18,19,20,21,22,23] [Im 16 0,Im 17 1,Im 18 10,XM 19 17 18,Im 20 0,Im 21 2,Im 22 10,XM 23 21 22,Im 24 0,Im 25 2,Im 26 10,XM 27 25 26,zF 28 2 24 27,zc 29 2 28,Im 30 0,Im 31 1,Im 32 10,XM 33 31 32,zF 34 2 30 33,zc 35 2 34,zF 36 2 16 19,⟨none,none,.st 2 (.t 36) (.t 29),[]⟩,zF 37 2 20 23,⟨none,none,.st 2 (.t 37) (.t 35),[]⟩]))
 (.rg [Im 14 10,zC 15 14 1,Im 10 15])))))⟩
theorem ck539:za Tryz.prog 539 ir539=true:=by kernel_rfl
def ir542:zf:=⟨78,2,[.t 4],.seq (.rg [Io 4 (.mv (.k (.sl .nil 1 [])))])
 (.seq (.rg [Im 6 1,Io 7 (.cvi .u32 (.t 6)),Im 5 7])
 (.block 0 (.seq (.rg [Im 12 5,Io 13 (.bi .leq .u32 (.t 12) (.k (.int .u32 2047))),Im 11 13])
 (.cond (.t 11) (.seq (.rg [Im 14 0,Im 15 1,Io 16 (.shf .shr (.t 15) (.k (.int .u64 6))),Io 17 (.cvi .u8 (.t 16)),Io 18 (.bi .or .u8 (.k (.int .u8 192)) (.t 17)),Im 19 1,Io 20 (.cvi .u8 (.t 19)),Io 21 (.bi .and .u8 (.t 20) (.k (.int .u8 63))),Io 22 (.bi .or .u8 (.k (.int .u8 128)) (.t 21)),Io 23 (.bls 1 2 [.int .u8 0] [(0,(.t 18)),(1,(.t 22))]),z1 24 1 1 14 23,Im 4 24])
 .ret) (.seq (.seq (.rg [Im 26 5,Io 27 (.bi .lss .u32 (.t 26) (.k (.int .u32 55296))),Im 25 27])
 (.cond (.t 25) .skip (.rg [Im 28 5,Io 29 (.bi .lss .u32 (.k (.int .u32 57343)) (.t 28)),Im 30 29,Jm 31 30 5,Jt 32 30 (.bi .leq .u32 (.t 31) (.k (.int .u32 65535))),zI 33 30 32,Im 25 33])))
 (.cond (.t 25) (.seq (.rg [Im 34 0,Im 35 1,Io 36 (.shf .shr (.t 35) (.k (.int .u64 12))),Io 37 (.cvi .u8 (.t 36)),Io 38 (.bi .or .u8 (.k (.int .u8 224)) (.t 37)),Im 39 1,Io 40 (.shf .shr (.t 39) (.k (.int .u64 6))),Io 41 (.cvi .u8 (.t 40)),Io 42 (.bi .and .u8 (.t 41) (.k (.int .u8 63))),Io 43 (.bi .or .u8 (.k (.int .u8 128)) (.t 42)),Im 44 1,Io 45 (.cvi .u8 (.t 44)),Io 46 (.bi .and .u8 (.t 45) (.k (.int .u8 63))),Io 47 (.bi .or .u8 (.k (.int .u8 128)) (.t 46)),Io 48 (.bls 1 3 [.int .u8 0] [(0,(.t 38)),(1,(.t 43)),(2,(.t 47))]),z1 49 1 1 34 48,Im 4 49])
 .ret) (.seq (.rg [Im 51 5,Io 52 (.bi .gtr .u32 (.t 51) (.k (.int .u32 65535))),Im 53 52,Jm 54 53 5,Jt 55 53 (.bi .leq .u32 (.t 54) (.k (.int .u32 1114111))),zI 56 53 55,Im 50 56])
 (.cond (.t 50) (.seq (.rg [Im 57 0,Im 58 1,Io 59 (.shf .shr (.t 58) (.k (.int .u64 18))),Io 60 (.cvi .u8 (.t 59)),Io 61 (.bi .or .u8 (.k (.int .u8 240)) (.t 60)),Im 62 1,Io 63 (.shf .shr (.t 62) (.k (.int .u64 12))),Io 64 (.cvi .u8 (.t 63)),Io 65 (.bi .and .u8 (.t 64) (.k (.int .u8 63))),Io 66 (.bi .or .u8 (.k (.int .u8 128)) (.t 65)),Im 67 1,Io 68 (.shf .shr (.t 67) (.k (.int .u64 6))),Io 69 (.cvi .u8 (.t 68)),Io 70 (.bi .and .u8 (.t 69) (.k (.int .u8 63))),Io 71 (.bi .or .u8 (.k (.int .u8 128)) (.t 70)),Im 72 1,Io 73 (.cvi .u8 (.t 72)),Io 74 (.bi .and .u8 (.t 73) (.k (.int .u8 63))),Io 75 (.bi .or .u8 (.k (.int .u8 128)) (.t 74)),Io 76 (.bls 1 4 [.int .u8 0] [(0,(.t 61)),(1,(.t 66)),(2,(.t 71)),(3,(.t 75))]),z1 77 1 1 57 76,Im 4 77])
 .ret) (.seq (.rg [Im 8 0,Io 9 (.bls 1 3 [.int .u8 0] [(0,(.k (.int .u8 239))),(1,(.k (.int .u8 191))),(2,(.k (.int .u8 189)))]),z1 10 1 1 8 9,Im 4 10])
 .ret)))))))))⟩
theorem ck542:za Tryz.prog 542 ir542=true:=by kernel_rfl
def ir543:zf:=⟨27,3,[],.seq (.rg [zp 3 0])
 (.seq (.rg [Im 8 2,zD 9 8,zj 10 0])
 (.block 0 (.loop [1,3,8,9,10] (.seq (.rg [zK 11 10 9])
 (.seq (.cond (.t 11) .skip (.exit 0))
 (.seq (.block 1 (.seq (.rg [Im 12 10,zF 13 1 8 10,Il 14 1 13,Im 6 12,Im 7 14])
 (.seq (.seq (.rg [Im 15 6,YV 16 15 0])
 (.cond (.t 16) (.rg [If 17 0 3,Il 18 1 17,Im 19 1,Io 20 (.bls 1 1 [.str []] [(0,(.t 19))]),Io 21 (.call 326 [(.t 18),(.t 20)])]) .skip))
 (.rg [If 22 0 3,Il 23 1 22,Im 24 7,Io 25 (.call 325 [(.t 23),(.t 24)])]))))
 (.rg [zC 26 10 1,Im 10 26])))))))⟩
theorem ck543:za Tryz.prog 543 ir543=true:=by kernel_rfl
def ir544:zf:=⟨48,2,[],.seq (.rg [zp 2 0])
 (.seq (.rg [Im 6 1,zD 7 6,zj 8 0])
 (.block 0 (.loop [2,6,7,8] (.seq (.rg [zK 9 8 7])
 (.seq (.cond (.t 9) .skip (.exit 0))
 (.seq (.block 1 (.seq (.rg [zF 10 6 6 8,zc 11 6 10,Io 5 (.alloc [.str [],.sl .nil 10 [],.str [],.int .i64 0,.int .i64 0,.sl .nil 2 []]),⟨none,none,.st 6 (.t 5) (.t 11),[]⟩])
 (.seq (.rg [If 12 0 2,Il 13 1 12,If 14 0 5,Il 15 1 14,Io 16 (.call 325 [(.t 13),(.t 15)])])
 (.seq (.seq (.rg [If 17 1 5,Il 18 1 17,zD 19 18,YV 20 19 0])
 (.cond (.t 20) (.seq (.rg [If 21 0 2,Il 22 1 21,Io 23 (.bls 1 1 [.str []] [(0,(.k (.str [40])))]),Io 24 (.call 326 [(.t 22),(.t 23)])])
 (.seq (.rg [zc 25 1 2,If 26 1 5,Il 27 1 26,Io 28 (.call 522 [(.t 25),(.t 27)])])
 (.rg [If 29 0 2,Il 30 1 29,Io 31 (.bls 1 1 [.str []] [(0,(.k (.str [41])))]),Io 32 (.call 326 [(.t 30),(.t 31)])]))) .skip))
 (.seq (.rg [If 33 0 2,Il 34 1 33,Io 35 (.bls 1 1 [.str []] [(0,(.k (.str [58])))]),Io 36 (.call 326 [(.t 34),(.t 35)])])
 (.seq (.rg [If 37 0 2,Il 38 1 37,If 39 2 5,zc 40 3 39,Io 41 (.call 327 [(.t 38),(.t 40)])])
 (.rg [If 42 0 2,Il 43 1 42,If 44 5 5,Il 45 1 44,Io 46 (.call 329 [(.t 43),(.k (.bool true)),(.t 45)])])))))))
 (.rg [zC 47 8 1,Im 8 47])))))))⟩
theorem ck544:za Tryz.prog 544 ir544=true:=by kernel_rfl
def ir549:zf:=⟨5,1,[.c 2 2 true],.seq (.rg [Io 2 (.alloc [.int .i64 0,.str []])])
 (.seq (.rg [Im 3 0,Io 4 (.bld [.int .i64 0,.str []] [(0,1,(.k (.int .i64 2))),(1,1,(.t 3))]),⟨none,none,.st 2 (.t 2) (.t 4),[]⟩])
 .ret)⟩
theorem ck549:za Tryz.prog 549 ir549=true:=by kernel_rfl
def ir550:zf:=⟨5,1,[.t 2],.seq (.rg [Io 2 (.mv (.k (.str [])))])
 (.seq (.rg [Im 3 0,Io 4 (.call 559 [(.t 3)]),Im 2 4])
 .ret)⟩
theorem ck550:za Tryz.prog 550 ir550=true:=by kernel_rfl
def ir551:zf:=⟨5,1,[.c 2 2 true],.seq (.rg [Io 2 (.alloc [.int .i64 0,.str []])])
 (.seq (.rg [Im 3 0,Io 4 (.bld [.int .i64 0,.str []] [(0,1,(.k (.int .i64 1))),(1,1,(.t 3))]),⟨none,none,.st 2 (.t 2) (.t 4),[]⟩])
 .ret)⟩
theorem ck551:za Tryz.prog 551 ir551=true:=by kernel_rfl
def ir553:zf:=⟨9,2,[.t 4],.seq (.rg [zh 4 false])
 (.seq (.rg [Im 5 0,Im 6 1,Io 7 (.call 555 [(.t 5),(.t 6)]),Io 8 (.bi .geq .i64 (.t 7) (.k (.int .i64 0))),Im 4 8])
 .ret)⟩
theorem ck553:za Tryz.prog 553 ir553=true:=by kernel_rfl
def ir555:zf:=⟨19,2,[.t 4],.seq (.rg [zj 4 0])
 (.seq (.seq (.rg [Im 6 0,zD 7 6,zj 8 0])
 (.block 0 (.loop [0,1,7,8] (.seq (.rg [zK 9 8 7])
 (.seq (.cond (.t 9) .skip (.exit 0))
 (.seq (.block 1 (.seq (.rg [Im 10 8,Im 5 10])
 (.seq (.rg [Im 11 1,Im 12 0,Im 13 5,zF 14 6 12 13,zc 15 6 14,Io 16 (.callv (.t 11) [(.t 15)])])
 (.cond (.t 16) (.seq (.rg [Im 17 5,Im 4 17])
 .ret) .skip))))
 (.rg [zC 18 8 1,Im 8 18])))))))
 (.seq (.rg [Io 4 (.mv (.k (.int .i64 (-1))))])
 .ret))⟩
theorem ck555:za Tryz.prog 555 ir555=true:=by kernel_rfl
def ir559:zf:=⟨4,1,[.t 2],.seq (.rg [Io 2 (.mv (.k (.str [])))])
 (.seq (.seq (.rg [Im 3 0])
 (.cond (.t 3) (.seq (.rg [Io 2 (.mv (.k (.str [116,114,117,101])))])
 .ret) .skip))
 (.seq (.rg [Io 2 (.mv (.k (.str [102,97,108,115,101])))])
 .ret))⟩
theorem ck559:za Tryz.prog 559 ir559=true:=by kernel_rfl
end Go.Proofs.YtdpfofoinaammaaGreatDoor
