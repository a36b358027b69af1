import Derived.Conc.EntryLaws
import Derived.Ground.NamesProg
import Derived.Lib.Bytealg
import Derived.Lib.ItoaNum
import Derived.Lib.LaidTab
import Derived.Shelf.Lay
import Derived.Shelf.Strconv.Itoa4
import Derived.Shelf.Strconv.ParseIntPublic10
import Derived.Test.YtainhmbnbgonhaaGreatDoorProg
import Derived.Test.YtainhmbnbgonhaaGreatDoorM4
import Derived.Test.YtainhmbnbgonhaaGreatDoorM5
set_option linter.unusedSimpArgs false
set_option linter.unnecessarySimpa false
namespace GP
open Go Go.Proofs
open Rd O
set_option maxRecDepth 100000
def c17 : C :=
 (.seq (.reg [I1 2 (.mv KF)])
 (.seq (.reg [Ip 3 48 [],Im 4 0,Ip 5 47 [(t 3),(t 4)],Im 2 5])
 .ret))
theorem fn17 : Fn Tryz.prog 17 6 [.inl 2] c17:=⟨⟨_,_,Tryz.func17,rfl,by kernel_rfl,Tryz.ntmps17,by kernel_rfl,Hq1,by kernel_rfl⟩⟩
def c26 : C :=
 (.seq (.reg [I1 1 (.box (t 0)),I1 2 (.mv (Ki 0))])
 (.seq (.reg [I1 3 (.mv (Ki 0))])
 (.seq (.seq (.reg [If 6 7 1,Il 7 6,Iz 8 7,I1 9 (.mv (Ki 0))])
 (.block 0
 (.loop
 (.seq (.reg [I1 10 (.bin .lss (t 9) (t 8))])
 (.seq (.cond (t 10)
 .skip
 (.exit 0))
 (.seq (.block 1
 (.seq (.reg [I1 11 (.iaddr 8 (t 7) (t 9)),Ia 12 8 11,I1 5 (.alloc [(.str []),(.int .i64 0),(.int .i64 0),(.str []),.nils,(.str []),(.str []),.nils]),Is 8 5 12])
 (.reg [Im 13 3,Ia 14 8 5,Ip 15 26 [(t 14)],I1 16 (.mx (t 13) (t 15)),Im 3 16])))
 (.reg [I1 17 (.bin .add (t 9) (Ki 1)),Im 9 17])))))))
 (.seq (.reg [Im 18 3,I1 19 (.bin .add (t 18) (Ki 1)),Im 2 19])
 .ret))))
theorem fn26 : Fn Tryz.prog 26 20 [.inl 2] c26:=⟨⟨_,_,Tryz.func26,rfl,by kernel_rfl,Tryz.ntmps26,by kernel_rfl,Hq1,by kernel_rfl⟩⟩
def c29 : C :=
 (.seq (.reg [I1 1 (.box (t 0)),I1 2 (.mv KF)])
 (.seq (.seq (.reg [If 9 1 1,Il 10 9,Ip 11 59 [(t 10)],Ip 12 57 [(t 11)],I1 13 (.un .not (t 12))])
 (.cond (t 13)
 (.seq (.reg [I1 2 (.mv KF)])
 .ret)
 .skip))
 (.seq (.seq (.reg [I1 3 (.mv (Ki 0))])
 (.block 0
 (.loop
 (.seq (.seq (.reg [Im 14 3,If 15 0 1,Il 16 15,Iz 17 16,I1 18 (.bin .lss (t 14) (t 17))])
 (.cond (t 18)
 .skip
 (.exit 0)))
 (.seq (.block 1
 (.seq (.reg [If 21 0 1,Il 22 21,Im 23 3,I1 24 (.iaddr 4 (t 22) (t 23)),Ia 25 4 24,I1 4 (.alloc [(.str []),(.str []),(.int .i64 0),(.bool false)]),Is 4 4 25])
 (.seq (.reg [If 26 0 4,Il 27 26,Ip 28 55 [(t 27)],I1 29 (.un .not (t 28)),Im 30 29,Jf 31 30 false 1 4,Jl 32 30 false 31,I3 33 30 (.pcall (Kf 56) [(t 32)]),I3 34 30 (.un .not (t 33)),I1 35 (.pick (t 30) KT (t 34)),Im 36 35,Jf 37 36 false 2 4,Jl 38 36 false 37,I3 39 36 (.bin .lss (t 38) (Ki 1)),I1 40 (.pick (t 36) KT (t 39)),Im 41 40,Jf 42 41 false 2 4,Jl 43 41 false 42,I3 44 41 (.bin .gtr (t 43) (Ki 4)),I1 45 (.pick (t 41) KT (t 44))])
 (.cond (t 45)
 (.seq (.reg [I1 2 (.mv KF)])
 .ret)
 .skip))))
 (.reg [Im 19 3,I1 20 (.bin .add (t 19) (Ki 1)),Im 3 20]))))))
 (.seq (.seq (.reg [I1 5 (.mv (Ki 0))])
 (.block 2
 (.loop
 (.seq (.seq (.reg [Im 46 5,If 47 2 1,Il 48 47,Iz 49 48,I1 50 (.bin .lss (t 46) (t 49))])
 (.cond (t 50)
 .skip
 (.exit 2)))
 (.seq (.block 3
 (.seq (.reg [If 53 2 1,Il 54 53,Im 55 5,I1 56 (.iaddr 13 (t 54) (t 55)),Ia 57 13 56,I1 6 (.alloc [(.str []),(.str []),(.str []),(.bool false),(.str []),(.int .i64 0),(.int .i64 0),(.str []),.nils,(.str []),(.str []),.nils,.nils]),Is 13 6 57])
 (.seq (.seq (.reg [If 58 0 6,Il 59 58,Ip 60 56 [(t 59)],I1 61 (.un .not (t 60)),Im 62 61,Jf 63 62 false 1 6,Jl 64 62 false 63,I3 65 62 (.pcall (Kf 56) [(t 64)]),I3 66 62 (.un .not (t 65)),I1 67 (.pick (t 62) KT (t 66)),Im 68 67,Jf 69 68 false 2 6,Jl 70 68 false 69,I3 71 68 (.pcall (Kf 59) [(t 70)]),I3 72 68 (.pcall (Kf 57) [(t 71)]),I3 73 68 (.un .not (t 72)),I1 74 (.pick (t 68) KT (t 73)),Im 75 74,Jf 76 75 false 3 6,Jl 77 75 false 76,Jf 78 75 false 4 6,I3 79 75 (.load true 8 (t 78)),I3 80 75 (.pcall (Kf 66) [(t 77),(t 79)]),I3 81 75 (.un .not (t 80)),I1 82 (.pick (t 75) KT (t 81))])
 (.cond (t 82)
 (.seq (.reg [I1 2 (.mv KF)])
 .ret)
 .skip))
 (.seq (.reg [I1 7 (.mv (Ki 0))])
 (.block 4
 (.loop
 (.seq (.seq (.reg [Im 83 7,If 84 12 6,Il 85 84,Iz 86 85,I1 87 (.bin .lss (t 83) (t 86))])
 (.cond (t 87)
 .skip
 (.exit 4)))
 (.seq (.block 5
 (.seq (.reg [If 90 12 6,Il 91 90,Im 92 7,I1 93 (.iaddr 13 (t 91) (t 92)),Ia 94 13 93,I1 8 (.alloc [(.bool false),(.str []),(.bool false),(.str []),(.int .i64 0),(.int .i64 0),(.str []),.nils,(.str []),(.str []),.nils,.nils,.nils]),Is 13 8 94])
 (.seq (.reg [If 95 1 8,Il 96 95,Ip 97 56 [(t 96)],I1 98 (.un .not (t 97)),Im 99 98,Jf 100 99 false 2 8,Jl 101 99 false 100,Jf 102 99 false 3 8,I3 103 99 (.load true 8 (t 102)),I3 104 99 (.pcall (Kf 66) [(t 101),(t 103)]),I3 105 99 (.un .not (t 104)),I1 106 (.pick (t 99) KT (t 105)),Im 107 106,Jf 108 107 false 11 8,Jl 109 107 false 108,I3 110 107 (.pcall (Kf 67) [(t 109)]),I3 111 107 (.un .not (t 110)),I1 112 (.pick (t 107) KT (t 111)),Im 113 112,Jf 114 113 false 12 8,Jl 115 113 false 114,I3 116 113 (.pcall (Kf 67) [(t 115)]),I3 117 113 (.un .not (t 116)),I1 118 (.pick (t 113) KT (t 117))])
 (.cond (t 118)
 (.seq (.reg [I1 2 (.mv KF)])
 .ret)
 .skip))))
 (.reg [Im 88 7,I1 89 (.bin .add (t 88) (Ki 1)),Im 7 89])))))))))
 (.reg [Im 51 5,I1 52 (.bin .add (t 51) (Ki 1)),Im 5 52]))))))
 (.seq (.reg [I1 2 (.mv KT)])
 .ret)))))
theorem fn29 : Fn Tryz.prog 29 119 [.inl 2] c29:=⟨⟨_,_,Tryz.func29,rfl,by kernel_rfl,Tryz.ntmps29,by kernel_rfl,Hq1,by kernel_rfl⟩⟩
def c59 : C :=
 (.seq (.reg [I1 2 (.alloc [(.int .i64 0),(.str []),(.int .i64 0)])])
 (.seq (.reg [Im 3 0,I1 4 (.build [(.int .i64 0),(.str []),(.int .i64 0)] [(0,1,(Ki 1)),(1,1,(t 3))]),Is 3 2 4])
 .ret))
theorem fn59 : Fn Tryz.prog 59 5 [.inr (2,true,3)] c59:=⟨⟨_,_,Tryz.func59,rfl,by kernel_rfl,Tryz.ntmps59,by kernel_rfl,Hq1,by kernel_rfl⟩⟩
def c66 : C :=
 (.seq (.reg [I1 3 (.box (t 1)),I1 4 (.mv KF)])
 (.seq (.seq (.reg [Im 5 0,I1 6 (.un .not (t 5))])
 (.cond (t 6)
 (.seq (.reg [Ia 7 8 3,I1 8 (.build [(.str []),(.int .i64 0),(.int .i64 0),(.str []),.nils,(.str []),(.str []),.nils] []),Ip 9 20 [(t 7),(t 8)],Im 4 9])
 .ret)
 .skip))
 (.seq (.reg [Ia 10 8 3,Ip 11 21 [(t 10)],Im 12 11,I2 13 12 (.load true 8 (t 3)),I2 14 12 (.pcall (Kf 22) [(t 13)]),I2 15 12 (.bin .leq (t 14) (Ki 12)),I1 16 (.pick (t 12) (t 15) KF),Im 4 16])
 .ret)))
theorem fn66 : Fn Tryz.prog 66 17 [.inl 4] c66:=⟨⟨_,_,Tryz.func66,rfl,by kernel_rfl,Tryz.ntmps66,by kernel_rfl,Hq1,by kernel_rfl⟩⟩
def c82 : C :=
 (.seq (.draw 0 [(Im 6 0,[]),(Im 7 0,[]),(In 8 7,[]),(If 9 0 8,[]),(Il 10 9,[]),(Im 11 1,[]),(Im 12 2,[]),(Ip 13 46 [(t 12)],[]),(I1 14 (.bin .add (t 11) (t 13)),[]),(I1 15 (.bin .add (t 14) (Ks ([10]))),[]),(I1 16 (.bslq 1 [(t 15)]),[]),(I1 17 (.app false 1 16 (t 10) (t 16)),[]),(In 18 6,[]),(If 19 0 18,[]),(Is 1 19 17,[])])
 (.reg [Im 20 0,In 21 20,If 22 1 21,Il 23 22,Im 24 2,Iz 25 24,I1 26 (.bin .add (t 23) (t 25)),In 27 20,If 28 1 27,Is 1 28 26]))
theorem fn82 : Fn Tryz.prog 82 29 [] c82:=⟨⟨_,_,Tryz.func82,rfl,by kernel_rfl,Tryz.ntmps82,by kernel_rfl,Hq1,by kernel_rfl⟩⟩
def c124 : C :=
 (.seq (.reg [I1 2 (.mv KN)])
 (.seq (.reg [I1 3 (.bsl 1 [(Ks ([40]))]),Ip 4 84 [(t 3)],Im 5 0,I1 6 (.bsl 1 [(Ks ([41]))]),Ip 7 84 [(t 6)],I1 8 (.bsl 1 [(t 4),(t 5),(t 7)]),Ip 9 85 [(t 8)],Im 2 9])
 .ret))
theorem fn124 : Fn Tryz.prog 124 10 [.inl 2] c124:=⟨⟨_,_,Tryz.func124,rfl,by kernel_rfl,Tryz.ntmps124,by kernel_rfl,Hq1,by kernel_rfl⟩⟩
def c136 : C :=
 (.seq (.reg [I1 1 (.box (t 0)),I1 2 (.mv KF)])
 (.seq (.seq (.reg [If 5 11 1,Il 6 5,If 7 12 1,Il 8 7,I1 9 (.bsl 1 [(t 6),(t 8)]),Ip 10 182 [(t 9)],Iz 11 10,I1 12 (.mv (Ki 0))])
 (.block 0
 (.loop
 (.seq (.reg [I1 13 (.bin .lss (t 12) (t 11))])
 (.seq (.cond (t 13)
 .skip
 (.exit 0))
 (.seq (.block 1
 (.seq (.reg [I1 14 (.iaddr 1 (t 10) (t 12)),Il 15 14,Im 4 15])
 (.seq (.reg [Im 16 4,Ip 17 128 [(t 16)],I1 18 (.un .not (t 17))])
 (.cond (t 18)
 (.seq (.reg [I1 2 (.mv KF)])
 .ret)
 .skip))))
 (.reg [I1 19 (.bin .add (t 12) (Ki 1)),Im 12 19])))))))
 (.seq (.reg [If 20 1 1,Il 21 20,Ip 22 127 [(t 21)],Im 23 22,Jf 24 23 true 2 1,Jl 25 23 true 24,Jf 26 23 true 3 1,I2 27 23 (.load true 8 (t 26)),I2 28 23 (.pcall (Kf 135) [(t 25),(t 27)]),I1 29 (.pick (t 23) (t 28) KF),Im 2 29])
 .ret)))
theorem fn136 : Fn Tryz.prog 136 30 [.inl 2] c136:=⟨⟨_,_,Tryz.func136,rfl,by kernel_rfl,Tryz.ntmps136,by kernel_rfl,Hq1,by kernel_rfl⟩⟩
def c143 : C :=
 (.seq (.reg [I1 2 (.mv (Ks ([])))])
 (.seq (.reg [I1 3 (.mv (Ks ([])))])
 (.seq (.block 0
 (.loop
 (.seq (.seq (.reg [Im 4 0,I1 5 (.bin .gtr (t 4) (Ki 9))])
 (.cond (t 5)
 .skip
 (.exit 0)))
 (.block 1
 (.seq (.reg [Im 6 0,I1 7 (.bin .rem (t 6) (Ki 10)),I1 8 (.bin .add (Ki 48) (t 7)),I1 9 (.conv .u8 (t 8)),I1 10 (.bsl 1 [(t 9)]),I1 11 (.b2s (t 10)),Im 12 3,I1 13 (.bin .add (t 11) (t 12)),Im 3 13])
 (.reg [Im 14 0,I1 15 (.bin .quo (t 14) (Ki 10)),Im 0 15]))))))
 (.seq (.reg [Im 16 0,I1 17 (.bin .add (Ki 48) (t 16)),I1 18 (.conv .u8 (t 17)),I1 19 (.bsl 1 [(t 18)]),I1 20 (.b2s (t 19)),Im 21 3,I1 22 (.bin .add (t 20) (t 21)),Im 2 22])
 .ret))))
theorem fn143 : Fn Tryz.prog 143 23 [.inl 2] c143:=⟨⟨_,_,Tryz.func143,rfl,by kernel_rfl,Tryz.ntmps143,by kernel_rfl,Hq1,by kernel_rfl⟩⟩
def c162 : C :=
 (.seq (.reg [I1 2 (.mv KF)])
 (.seq (.reg [Im 3 0,I1 4 (.bin .geq (t 3) (k (.int .u8 97))),Im 5 4,Jm 6 5 true 0,I2 7 5 (.bin .leq (t 6) (k (.int .u8 122))),I1 8 (.pick (t 5) (t 7) KF),Im 2 8])
 .ret))
theorem fn162 : Fn Tryz.prog 162 9 [.inl 2] c162:=⟨⟨_,_,Tryz.func162,rfl,by kernel_rfl,Tryz.ntmps162,by kernel_rfl,Hq1,by kernel_rfl⟩⟩
def c166 : C :=
 (.seq (.reg [I1 1 (.box (t 0)),I1 2 (.mv KF)])
 (.seq (.seq (.reg [If 3 0 1,Il 4 3])
 (.block 0
 (.seq (.reg [I1 6 (.bin .eql (t 4) (Ki 1)),Im 5 6])
 (.cond (t 5)
 (.seq (.draw 0 [(If 7 2 1,[]),(Il 8 7,[]),(I1 9 (.bin .eql (t 8) (Ki 0)),[]),(Im 10 9,[]),(Jf 11 10 true 1 1,[]),(Jl 12 10 true 11,[]),(I2 13 10 (.lens (t 12)),[]),(I2 14 10 (.bin .geq (t 13) (Ki 1)),[]),(I1 15 (.pick (t 10) (t 14) KF),[]),(Im 16 15,[]),(Jf 17 16 true 1 1,[]),(Jl 18 16 true 17,[]),(I2 19 16 (.lens (t 18)),[]),(I2 20 16 (.bin .leq (t 19) (Ki 64)),[]),(I1 21 (.pick (t 16) (t 20) KF),[]),(Im 22 21,[]),(Jf 23 22 true 1 1,[]),(Jl 24 22 true 23,[]),(I2 25 22 (.idxs (t 24) (Ki 0)),[]),(I2 26 22 (.bin .geq (t 25) (k (.int .u8 97))),[]),(I1 27 (.pick (t 22) (t 26) KF),[]),(Im 28 27,[]),(Jf 29 28 true 1 1,[]),(Jl 30 28 true 29,[]),(I2 31 28 (.idxs (t 30) (Ki 0)),[]),(I2 32 28 (.bin .leq (t 31) (k (.int .u8 122))),[]),(I1 33 (.pick (t 28) (t 32) KF),[]),(Im 34 33,[]),(Jf 35 34 true 1 1,[]),(Jl 36 34 true 35,[]),(I2 37 34 (.pcall (Kf 144) [(t 36),(Ki 0),(Kf 199)]),[]),(Jf 38 34 true 1 1,[]),(Jl 39 34 true 38,[]),(I2 40 34 (.lens (t 39)),[]),(I2 41 34 (.bin .eql (t 37) (t 40)),[]),(I1 42 (.pick (t 34) (t 41) KF),[]),(Im 2 42,[])])
 .ret)
 (.seq (.reg [I1 44 (.bin .eql (t 4) (Ki 2)),Im 43 44])
 (.cond (t 43)
 (.seq (.reg [If 45 1 1,Il 46 45,I1 47 (.bin .eql (t 46) (Ks ([]))),Im 48 47,Jf 49 48 true 2 1,Jl 50 48 true 49,I2 51 48 (.bin .geq (t 50) (Ki 0)),I1 52 (.pick (t 48) (t 51) KF),Im 2 52])
 .ret)
 (.seq (.reg [I1 54 (.bin .eql (t 4) (Ki 4)),Im 53 54])
 (.cond (t 53)
 (.seq (.reg [If 55 1 1,Il 56 55,I1 57 (.bin .eql (t 56) (Ks ([]))),Im 58 57,Jf 59 58 true 2 1,Jl 60 58 true 59,I2 61 58 (.bin .geq (t 60) (Ki 0)),I1 62 (.pick (t 58) (t 61) KF),Im 63 62,Jf 64 63 true 2 1,Jl 65 63 true 64,I2 66 63 (.bin .leq (t 65) (Ki 1099511627776)),I1 67 (.pick (t 63) (t 66) KF),Im 2 67])
 .ret)
 (.seq (.reg [I1 69 (.bin .eql (t 4) (Ki 3)),Im 68 69])
 (.cond (t 68)
 (.seq (.draw 0 [(If 70 2 1,[]),(Il 71 70,[]),(I1 72 (.bin .eql (t 71) (Ki 0)),[]),(Im 73 72,[]),(Jf 74 73 true 1 1,[]),(Jl 75 73 true 74,[]),(I2 76 73 (.lens (t 75)),[]),(I2 77 73 (.bin .leq (t 76) (Ki 64)),[]),(I1 78 (.pick (t 73) (t 77) KF),[]),(Im 79 78,[]),(Jf 80 79 true 1 1,[]),(Jl 81 79 true 80,[]),(I2 82 79 (.pcall (Kf 144) [(t 81),(Ki 0),(Kf 200)]),[]),(Jf 83 79 true 1 1,[]),(Jl 84 79 true 83,[]),(I2 85 79 (.lens (t 84)),[]),(I2 86 79 (.bin .eql (t 82) (t 85)),[]),(I1 87 (.pick (t 79) (t 86) KF),[]),(Im 2 87,[])])
 .ret)
 (.seq (.reg [I1 89 (.bin .eql (t 4) (Ki 5)),Im 88 89])
 (.cond (t 88)
 (.seq (.draw 0 [(If 90 2 1,[]),(Il 91 90,[]),(I1 92 (.bin .eql (t 91) (Ki 0)),[]),(Im 93 92,[]),(I2 94 93 (.pcall (Kf 151) []),[]),(Jf 95 93 true 1 1,[]),(Jl 96 93 true 95,[]),(I2 97 93 (.pcall (Kf 47) [(t 94),(t 96)]),[]),(I1 98 (.pick (t 93) (t 97) KF),[]),(Im 2 98,[])])
 .ret)
 .skip))))))))))))
 (.seq (.reg [I1 2 (.mv KF)])
 .ret)))
theorem fn166 : Fn Tryz.prog 166 99 [.inl 2] c166:=⟨⟨_,_,Tryz.func166,rfl,by kernel_rfl,Tryz.ntmps166,by kernel_rfl,Hq1,by kernel_rfl⟩⟩
def c171 : C :=
 (.seq (.reg [I1 1 (.box (t 0)),I1 2 (.mv KF)])
 (.seq (.seq (.reg [If 3 3 1,Il 4 3,Iz 5 4,I1 6 (.bin .gtr (t 5) (Ki 0)),Im 7 6,Jf 8 7 false 0 1,Jl 9 7 false 8,I3 10 7 (.bin .lss (t 9) (Ki 0)),I1 11 (.pick (t 7) KT (t 10)),Im 12 11,Jf 13 12 false 0 1,Jl 14 12 false 13,I3 15 12 (.bin .gtr (t 14) (Ki 4)),I1 16 (.pick (t 12) KT (t 15))])
 (.cond (t 16)
 (.seq (.reg [I1 2 (.mv KF)])
 .ret)
 .skip))
 (.seq (.seq (.reg [If 17 0 1,Il 18 17,I1 19 (.bin .eql (t 18) (Ki 3))])
 (.cond (t 19)
 (.seq (.reg [If 20 1 1,Il 21 20,I1 22 (.bin .eql (t 21) (Ki 0)),Im 23 22,Jf 24 23 true 2 1,Jl 25 23 true 24,I2 26 23 (.lens (t 25)),I2 27 23 (.bin .leq (t 26) (Ki 64)),I1 28 (.pick (t 23) (t 27) KF),Im 2 28])
 .ret)
 .skip))
 (.seq (.seq (.reg [If 29 2 1,Il 30 29,I1 31 (.bin .neq (t 30) (Ks ([]))),Im 32 31,Jf 33 32 false 0 1,Jl 34 32 false 33,I3 35 32 (.bin .eql (t 34) (Ki 0)),Jm 36 32 false 35,Jf 37 36 true 1 1,Jl 38 36 true 37,I2 39 36 (.bin .neq (t 38) (Ki 0)),I3 40 32 (.pick (t 36) (t 39) KF),I1 41 (.pick (t 32) KT (t 40)),Im 42 41,Jf 43 42 false 0 1,Jl 44 42 false 43,I3 45 42 (.bin .eql (t 44) (Ki 1)),Jm 46 42 false 45,Jf 47 46 true 1 1,Jl 48 46 true 47,I2 49 46 (.bin .neq (t 48) (Ki 0)),I3 50 42 (.pick (t 46) (t 49) KF),Jm 51 42 false 50,Jf 52 51 true 1 1,Jl 53 51 true 52,I2 54 51 (.bin .neq (t 53) (Ki 1)),I3 55 42 (.pick (t 51) (t 54) KF),I1 56 (.pick (t 42) KT (t 55))])
 (.cond (t 56)
 (.seq (.reg [I1 2 (.mv KF)])
 .ret)
 .skip))
 (.seq (.reg [If 57 0 1,Il 58 57,I1 59 (.bin .neq (t 58) (Ki 4)),Im 60 59,Jf 61 60 false 1 1,Jl 62 60 false 61,I3 63 60 (.bin .geq (t 62) (Ki 0)),Jm 64 60 false 63,Jf 65 64 true 1 1,Jl 66 64 true 65,I2 67 64 (.bin .leq (t 66) (Ki 1099511627776)),I3 68 60 (.pick (t 64) (t 67) KF),I1 69 (.pick (t 60) KT (t 68)),Im 2 69])
 .ret)))))
theorem fn171 : Fn Tryz.prog 171 70 [.inl 2] c171:=⟨⟨_,_,Tryz.func171,rfl,by kernel_rfl,Tryz.ntmps171,by kernel_rfl,Hq1,by kernel_rfl⟩⟩
end GP
namespace GP
open Go Go.Proofs
open Rd O
set_option maxRecDepth 100000
def c48 : C :=
 (.seq (.reg [I1 0 (.mv KN)])
 (.seq (.reg [I1 1 (.bsl 1 [(Ks ([102,97,99,116])),(Ks ([116,114,117,116,104])),(Ks ([110,117,109,98,101,114])),(Ks ([116,101,120,116])),(Ks ([116,105,109,101])),(Ks ([98,97,103])),(Ks ([117,115,101])),(Ks ([112,111,108,105,99,121])),(Ks ([98,121])),(Ks ([102,111,114])),(Ks ([112,101,114,109,105,116])),(Ks ([100,101,110,121])),(Ks ([105,102])),(Ks ([100,117,116,121])),(Ks ([97,100,118,105,99,101])),(Ks ([116,114,117,101])),(Ks ([102,97,108,115,101])),(Ks ([110,111,119])),(Ks ([111,114])),(Ks ([97,110,100])),(Ks ([110,111,116])),(Ks ([105,110])),(Ks ([104,97,115])),(Ks ([114,111,108,101])),(Ks ([115,105,122,101])),(Ks ([115,117,98,106,101,99,116])),(Ks ([114,101,115,111,117,114,99,101])),(Ks ([97,99,116,105,111,110])),(Ks ([101,110,118]))]),Im 0 1])
 .ret))
theorem fn48 : Fn Tryz.prog 48 2 [.inl 0] c48:=⟨⟨_,_,Tryz.func48,rfl,by kernel_rfl,Tryz.ntmps48,by kernel_rfl,Hq1,by kernel_rfl⟩⟩
def c51 : C :=
 (.seq (.reg [I1 2 (.box (t 0)),I1 3 (.box (t 1)),I1 4 (.mv KF)])
 (.seq (.reg [If 5 1 2,Ia 6 4 5,If 7 1 3,Ia 8 4 7,Ip 9 54 [(t 6),(t 8)],Im 4 9])
 .ret))
theorem fn51 : Fn Tryz.prog 51 10 [.inl 4] c51:=⟨⟨_,_,Tryz.func51,rfl,by kernel_rfl,Tryz.ntmps51,by kernel_rfl,Hq1,by kernel_rfl⟩⟩
def c62 : C :=
 (.seq (.reg [I1 4 (.mv KF)])
 (.seq (.seq (.reg [I1 5 (.mv (Ki 0))])
 (.block 0
 (.loop
 (.seq (.seq (.reg [Im 6 5,Im 7 0,Iz 8 7,I1 9 (.bin .lss (t 6) (t 8))])
 (.cond (t 9)
 .skip
 (.exit 0)))
 (.seq (.block 1
 (.seq (.reg [Im 12 0,Im 13 5,I1 14 (.iaddr 1 (t 12) (t 13)),Il 15 14,Im 16 1,I1 17 (.bin .eql (t 15) (t 16))])
 (.cond (t 17)
 (.seq (.reg [I1 4 (.mv KT)])
 .ret)
 .skip)))
 (.reg [Im 10 5,I1 11 (.bin .add (t 10) (Ki 1)),Im 5 11]))))))
 (.seq (.reg [I1 4 (.mv KF)])
 .ret)))
theorem fn62 : Fn Tryz.prog 62 18 [.inl 4] c62:=⟨⟨_,_,Tryz.func62,rfl,by kernel_rfl,Tryz.ntmps62,by kernel_rfl,Hq1,by kernel_rfl⟩⟩
def c64 : C :=
 (.seq (.reg [I1 2 (.box (t 0)),I1 3 (.box (t 1)),I1 4 (.mv (Ki 0))])
 (.seq (.seq (.draw 0 [(If 6 0 2,[]),(Il 7 6,[]),(If 8 0 3,[]),(Il 9 8,[]),(Ip 10 113 [(t 7),(t 9)],[]),(If 11 1 2,[]),(Il 12 11,[]),(If 13 1 3,[]),(Il 14 13,[]),(Ip 15 114 [(t 12),(t 14)],[]),(If 16 2 2,[]),(Il 17 16,[]),(If 18 2 3,[]),(Il 19 18,[]),(Ip 20 115 [(t 17),(t 19)],[]),(I1 21 (.bslq 1 [(t 10),(t 15),(t 20)]),[]),(Ip 22 112 [(t 21)],[]),(Im 5 22,[])])
 (.seq (.reg [Im 23 5,I1 24 (.bin .neq (t 23) (Ki 0))])
 (.cond (t 24)
 (.seq (.reg [Im 25 5,Im 4 25])
 .ret)
 .skip)))
 (.seq (.reg [If 26 3 2,Il 27 26,If 28 3 3,Il 29 28,Ip 30 116 [(t 27),(t 29),(Kf 64)],Im 4 30])
 .ret)))
theorem fn64 : Fn Tryz.prog 64 31 [.inl 4] c64:=⟨⟨_,_,Tryz.func64,rfl,by kernel_rfl,Tryz.ntmps64,by kernel_rfl,Hq1,by kernel_rfl⟩⟩
def c80 : C :=
 (.seq (.reg [I1 1 (.box (t 0)),I1 2 (.mv KF)])
 (.seq (.reg [Ia 3 8 1,Ip 4 35 [(t 3)],I1 5 (.un .not (t 4)),Im 2 5])
 .ret))
theorem fn80 : Fn Tryz.prog 80 6 [.inl 2] c80:=⟨⟨_,_,Tryz.func80,rfl,by kernel_rfl,Tryz.ntmps80,by kernel_rfl,Hq1,by kernel_rfl⟩⟩
def c81 : C :=
 (.seq (.reg [I1 1 (.box (t 0)),I1 2 (.mv KF)])
 (.seq (.seq (.reg [If 9 0 1,Il 10 9,Iz 11 10,I1 12 (.mv (Ki 0))])
 (.block 0
 (.loop
 (.seq (.reg [I1 13 (.bin .lss (t 12) (t 11))])
 (.seq (.cond (t 13)
 .skip
 (.exit 0))
 (.seq (.block 1
 (.seq (.reg [I1 14 (.iaddr 4 (t 10) (t 12)),Ia 15 4 14,I1 4 (.alloc [(.str []),(.str []),(.int .i64 0),(.bool false)]),Is 4 4 15])
 (.seq (.reg [If 16 0 4,Il 17 16,Ip 18 126 [(t 17)],I1 19 (.un .not (t 18)),Im 20 19,Jf 21 20 false 1 4,Jl 22 20 false 21,I3 23 20 (.pcall (Kf 127) [(t 22)]),I3 24 20 (.un .not (t 23)),I1 25 (.pick (t 20) KT (t 24)),Im 26 25,Jf 27 26 false 2 4,Jl 28 26 false 27,I3 29 26 (.bin .lss (t 28) (Ki 1)),I1 30 (.pick (t 26) KT (t 29)),Im 31 30,Jf 32 31 false 2 4,Jl 33 31 false 32,I3 34 31 (.bin .gtr (t 33) (Ki 4)),I1 35 (.pick (t 31) KT (t 34))])
 (.cond (t 35)
 (.seq (.reg [I1 2 (.mv KF)])
 .ret)
 .skip))))
 (.reg [I1 36 (.bin .add (t 12) (Ki 1)),Im 12 36])))))))
 (.seq (.seq (.reg [If 37 2 1,Il 38 37,Iz 39 38,I1 40 (.mv (Ki 0))])
 (.block 2
 (.loop
 (.seq (.reg [I1 41 (.bin .lss (t 40) (t 39))])
 (.seq (.cond (t 41)
 .skip
 (.exit 2))
 (.seq (.block 3
 (.seq (.reg [I1 42 (.iaddr 13 (t 38) (t 40)),Ia 43 13 42,I1 6 (.alloc [(.str []),(.str []),(.str []),(.bool false),(.str []),(.int .i64 0),(.int .i64 0),(.str []),.nils,(.str []),(.str []),.nils,.nils]),Is 13 6 43])
 (.seq (.seq (.reg [If 44 0 6,Il 45 44,Ip 46 127 [(t 45)],I1 47 (.un .not (t 46)),Im 48 47,Jf 49 48 false 1 6,Jl 50 48 false 49,I3 51 48 (.pcall (Kf 127) [(t 50)]),I3 52 48 (.un .not (t 51)),I1 53 (.pick (t 48) KT (t 52)),Im 54 53,Jf 55 54 false 2 6,Jl 56 54 false 55,I3 57 54 (.pcall (Kf 134) [(t 56)]),I3 58 54 (.un .not (t 57)),I1 59 (.pick (t 54) KT (t 58)),Im 60 59,Jf 61 60 false 3 6,Jl 62 60 false 61,Jf 63 60 false 4 6,I3 64 60 (.load true 8 (t 63)),I3 65 60 (.pcall (Kf 135) [(t 62),(t 64)]),I3 66 60 (.un .not (t 65)),I1 67 (.pick (t 60) KT (t 66))])
 (.cond (t 67)
 (.seq (.reg [I1 2 (.mv KF)])
 .ret)
 .skip))
 (.seq (.reg [If 68 12 6,Il 69 68,Iz 70 69,I1 71 (.mv (Ki 0))])
 (.block 4
 (.loop
 (.seq (.reg [I1 72 (.bin .lss (t 71) (t 70))])
 (.seq (.cond (t 72)
 .skip
 (.exit 4))
 (.seq (.block 5
 (.seq (.reg [I1 73 (.iaddr 13 (t 69) (t 71)),Ia 74 13 73,I1 8 (.alloc [(.bool false),(.str []),(.bool false),(.str []),(.int .i64 0),(.int .i64 0),(.str []),.nils,(.str []),(.str []),.nils,.nils,.nils]),Is 13 8 74])
 (.seq (.reg [Ia 75 13 8,Ip 76 136 [(t 75)],I1 77 (.un .not (t 76))])
 (.cond (t 77)
 (.seq (.reg [I1 2 (.mv KF)])
 .ret)
 .skip))))
 (.reg [I1 78 (.bin .add (t 71) (Ki 1)),Im 71 78]))))))))))
 (.reg [I1 79 (.bin .add (t 40) (Ki 1)),Im 40 79])))))))
 (.seq (.reg [If 80 1 1,Il 81 80,Ip 82 134 [(t 81)],Im 2 82])
 .ret))))
theorem fn81 : Fn Tryz.prog 81 83 [.inl 2] c81:=⟨⟨_,_,Tryz.func81,rfl,by kernel_rfl,Tryz.ntmps81,by kernel_rfl,Hq1,by kernel_rfl⟩⟩
def c90 : C :=
 (.seq (.reg [I1 1 (.box (t 0)),I1 2 (.mv (Ks ([])))])
 (.seq (.seq (.reg [If 5 0 1,Il 6 5])
 (.block 0
 (.seq (.reg [I1 8 (.bin .eql (t 6) (Ki 2)),Im 7 8])
 (.cond (t 7)
 (.seq (.reg [If 9 2 1,Il 10 9,Ip 11 143 [(t 10)],Im 2 11])
 .ret)
 (.seq (.reg [I1 13 (.bin .eql (t 6) (Ki 4)),Im 12 13])
 (.cond (t 12)
 (.seq (.reg [If 14 2 1,Il 15 14,Ip 16 143 [(t 15)],I1 17 (.bin .add (Ks ([64])) (t 16)),Im 2 17])
 .ret)
 (.seq (.reg [I1 19 (.bin .eql (t 6) (Ki 3)),Im 18 19])
 (.cond (t 18)
 (.seq (.reg [I1 3 (.mv (Ks ([34])))])
 (.seq (.seq (.reg [I1 4 (.mv (Ki 0))])
 (.block 1
 (.loop
 (.seq (.seq (.reg [Im 20 4,If 21 1 1,Il 22 21,I1 23 (.lens (t 22)),I1 24 (.bin .lss (t 20) (t 23))])
 (.cond (t 24)
 .skip
 (.exit 1)))
 (.seq (.block 2
 (.seq (.seq (.reg [If 27 1 1,Il 28 27,Im 29 4,I1 30 (.idxs (t 28) (t 29)),I1 31 (.bin .eql (t 30) (k (.int .u8 34))),Im 32 31,Jf 33 32 false 1 1,Jl 34 32 false 33,Jm 35 32 false 4,I3 36 32 (.idxs (t 34) (t 35)),I3 37 32 (.bin .eql (t 36) (k (.int .u8 92))),I1 38 (.pick (t 32) KT (t 37))])
 (.cond (t 38)
 (.reg [Im 39 3,I1 40 (.bin .add (t 39) (Ks ([92]))),Im 3 40])
 .skip))
 (.reg [Im 41 3,If 42 1 1,Il 43 42,Im 44 4,Im 45 4,I1 46 (.bin .add (t 45) (Ki 1)),I1 47 (.subs (t 43) (some (t 44)) (some (t 46))),I1 48 (.bin .add (t 41) (t 47)),Im 3 48])))
 (.reg [Im 25 4,I1 26 (.bin .add (t 25) (Ki 1)),Im 4 26]))))))
 (.seq (.reg [Im 49 3,I1 50 (.bin .add (t 49) (Ks ([34]))),Im 2 50])
 .ret)))
 .skip))))))))
 (.seq (.reg [If 51 1 1,Il 52 51,Im 2 52])
 .ret)))
theorem fn90 : Fn Tryz.prog 90 53 [.inl 2] c90:=⟨⟨_,_,Tryz.func90,rfl,by kernel_rfl,Tryz.ntmps90,by kernel_rfl,Hq1,by kernel_rfl⟩⟩
def c106 : C :=
 (.seq (.reg [I1 0 (.mv KN)])
 (.seq (.reg [I1 1 (.bsl 1 [(Ks ([111,114]))]),I1 2 (.bsl 1 [(Ks ([97,110,100]))]),I1 3 (.bsl 1 [(Ks ([61,61])),(Ks ([33,61])),(Ks ([60])),(Ks ([60,61])),(Ks ([62])),(Ks ([62,61])),(Ks ([105,110]))]),I1 4 (.bsl 1 [(Ks ([43])),(Ks ([45]))]),I1 5 (.bsl 1 [(Ks ([42]))]),I1 6 (.bsl 1 [(t 1),(t 2),(t 3),(t 4),(t 5)]),Im 0 6])
 .ret))
theorem fn106 : Fn Tryz.prog 106 7 [.inl 0] c106:=⟨⟨_,_,Tryz.func106,rfl,by kernel_rfl,Tryz.ntmps106,by kernel_rfl,Hq1,by kernel_rfl⟩⟩
def c110 : C :=
 (.seq (.reg [I1 2 (.mv KF)])
 (.seq (.reg [Ip 5 173 [],Im 3 5])
 (.seq (.seq (.reg [I1 4 (.mv (Ki 0))])
 (.block 0
 (.loop
 (.seq (.seq (.reg [Im 6 4,Im 7 3,Iz 8 7,I1 9 (.bin .lss (t 6) (t 8))])
 (.cond (t 9)
 .skip
 (.exit 0)))
 (.seq (.block 1
 (.seq (.reg [Im 12 3,Im 13 4,I1 14 (.iaddr 1 (t 12) (t 13)),Il 15 14,Im 16 0,I1 17 (.bin .eql (t 15) (t 16))])
 (.cond (t 17)
 (.seq (.reg [I1 2 (.mv KT)])
 .ret)
 .skip)))
 (.reg [Im 10 4,I1 11 (.bin .add (t 10) (Ki 1)),Im 4 11]))))))
 (.seq (.reg [I1 2 (.mv KF)])
 .ret))))
theorem fn110 : Fn Tryz.prog 110 18 [.inl 2] c110:=⟨⟨_,_,Tryz.func110,rfl,by kernel_rfl,Tryz.ntmps110,by kernel_rfl,Hq1,by kernel_rfl⟩⟩
def c113 : C :=
 (.seq (.reg [I1 4 (.mv (Ki 0))])
 (.seq (.reg [Im 7 0,Ip 8 174 [(t 7)],Im 5 8])
 (.seq (.reg [Im 9 1,Ip 10 174 [(t 9)],Im 6 10])
 (.seq (.seq (.reg [Im 11 5])
 (.cond (t 11)
 (.seq (.seq (.reg [Im 12 6])
 (.cond (t 12)
 (.seq (.reg [I1 4 (.mv (Ki 0))])
 .ret)
 .skip))
 (.seq (.reg [I1 4 (.mv (k (.int .i64 (-1))))])
 .ret))
 .skip))
 (.seq (.seq (.reg [Im 13 6])
 (.cond (t 13)
 (.seq (.reg [I1 4 (.mv (Ki 1))])
 .ret)
 .skip))
 (.seq (.seq (.reg [Im 14 0,Im 15 1,I1 16 (.bin .lss (t 14) (t 15))])
 (.cond (t 16)
 (.seq (.reg [I1 4 (.mv (k (.int .i64 (-1))))])
 .ret)
 .skip))
 (.seq (.seq (.reg [Im 17 0,Im 18 1,I1 19 (.bin .gtr (t 17) (t 18))])
 (.cond (t 19)
 (.seq (.reg [I1 4 (.mv (Ki 1))])
 .ret)
 .skip))
 (.seq (.reg [I1 4 (.mv (Ki 0))])
 .ret))))))))
theorem fn113 : Fn Tryz.prog 113 20 [.inl 4] c113:=⟨⟨_,_,Tryz.func113,rfl,by kernel_rfl,Tryz.ntmps113,by kernel_rfl,Hq1,by kernel_rfl⟩⟩
def c127 : C :=
 (.seq (.reg [I1 2 (.mv KF)])
 (.seq (.reg [Im 3 0,Ip 4 134 [(t 3)],Im 5 4,Jm 6 5 true 0,I2 7 5 (.pcall (Kf 17) [(t 6)]),I2 8 5 (.un .not (t 7)),I1 9 (.pick (t 5) (t 8) KF),Im 2 9])
 .ret))
theorem fn127 : Fn Tryz.prog 127 10 [.inl 2] c127:=⟨⟨_,_,Tryz.func127,rfl,by kernel_rfl,Tryz.ntmps127,by kernel_rfl,Hq1,by kernel_rfl⟩⟩
def c145 : C :=
 (.seq (.reg [I1 2 (.mv KF)])
 (.seq (.reg [Im 3 0,I1 4 (.bin .neq (t 3) (k (.int .u8 10))),Im 2 4])
 .ret))
theorem fn145 : Fn Tryz.prog 145 5 [.inl 2] c145:=⟨⟨_,_,Tryz.func145,rfl,by kernel_rfl,Tryz.ntmps145,by kernel_rfl,Hq1,by kernel_rfl⟩⟩
def c146 : C :=
 (.seq (.reg [I1 2 (.mv KF)])
 (.seq (.reg [Im 3 0,Ip 4 147 [(t 3)],Im 5 4,Jm 6 5 false 0,I3 7 5 (.pcall (Kf 148) [(t 6)]),I1 8 (.pick (t 5) KT (t 7)),Im 2 8])
 .ret))
theorem fn146 : Fn Tryz.prog 146 9 [.inl 2] c146:=⟨⟨_,_,Tryz.func146,rfl,by kernel_rfl,Tryz.ntmps146,by kernel_rfl,Hq1,by kernel_rfl⟩⟩
def c172 : C :=
 (.seq (.reg [I1 2 (.box (t 0)),I1 3 (.box (t 1)),I1 4 (.mv (Ki 0))])
 (.seq (.seq (.reg [If 5 0 2,Il 6 5,If 7 0 3,Il 8 7,I1 9 (.bin .neq (t 6) (t 8))])
 (.cond (t 9)
 (.seq (.reg [If 10 0 2,Il 11 10,If 12 0 3,Il 13 12,Ip 14 203 [(t 11),(t 13)],Im 4 14])
 .ret)
 .skip))
 (.seq (.seq (.reg [If 15 0 2,Il 16 15,I1 17 (.bin .eql (t 16) (Ki 3))])
 (.cond (t 17)
 (.seq (.reg [If 18 2 2,Il 19 18,If 20 2 3,Il 21 20,Ip 22 204 [(t 19),(t 21)],Im 4 22])
 .ret)
 .skip))
 (.seq (.reg [If 23 1 2,Il 24 23,If 25 1 3,Il 26 25,Ip 27 203 [(t 24),(t 26)],Im 4 27])
 .ret))))
theorem fn172 : Fn Tryz.prog 172 28 [.inl 4] c172:=⟨⟨_,_,Tryz.func172,rfl,by kernel_rfl,Tryz.ntmps172,by kernel_rfl,Hq1,by kernel_rfl⟩⟩
def c204 : C :=
 (.seq (.reg [I1 4 (.mv (Ki 0))])
 (.seq (.seq (.reg [I1 5 (.mv (Ki 0))])
 (.block 0
 (.loop
 (.seq (.seq (.reg [Im 6 5,Im 7 0,I1 8 (.lens (t 7)),I1 9 (.bin .lss (t 6) (t 8)),Im 10 9,Jm 11 10 true 5,Jm 12 10 true 1,I2 13 10 (.lens (t 12)),I2 14 10 (.bin .lss (t 11) (t 13)),I1 15 (.pick (t 10) (t 14) KF)])
 (.cond (t 15)
 .skip
 (.exit 0)))
 (.seq (.block 1
 (.seq (.seq (.draw 0 [(Im 18 0,[]),(Im 19 5,[]),(I1 20 (.idxs (t 18) (t 19)),[]),(Im 21 1,[]),(Im 22 5,[]),(I1 23 (.idxs (t 21) (t 22)),[]),(I1 24 (.bin .lss (t 20) (t 23)),[])])
 (.cond (t 24)
 (.seq (.reg [I1 4 (.mv (k (.int .i64 (-1))))])
 .ret)
 .skip))
 (.seq (.draw 0 [(Im 25 0,[]),(Im 26 5,[]),(I1 27 (.idxs (t 25) (t 26)),[]),(Im 28 1,[]),(Im 29 5,[]),(I1 30 (.idxs (t 28) (t 29)),[]),(I1 31 (.bin .gtr (t 27) (t 30)),[])])
 (.cond (t 31)
 (.seq (.reg [I1 4 (.mv (Ki 1))])
 .ret)
 .skip))))
 (.reg [Im 16 5,I1 17 (.bin .add (t 16) (Ki 1)),Im 5 17]))))))
 (.seq (.seq (.reg [Im 32 0,I1 33 (.lens (t 32)),Im 34 1,I1 35 (.lens (t 34)),I1 36 (.bin .lss (t 33) (t 35))])
 (.cond (t 36)
 (.seq (.reg [I1 4 (.mv (k (.int .i64 (-1))))])
 .ret)
 .skip))
 (.seq (.seq (.reg [Im 37 0,I1 38 (.lens (t 37)),Im 39 1,I1 40 (.lens (t 39)),I1 41 (.bin .gtr (t 38) (t 40))])
 (.cond (t 41)
 (.seq (.reg [I1 4 (.mv (Ki 1))])
 .ret)
 .skip))
 (.seq (.reg [I1 4 (.mv (Ki 0))])
 .ret)))))
theorem fn204 : Fn Tryz.prog 204 42 [.inl 4] c204:=⟨⟨_,_,Tryz.func204,rfl,by kernel_rfl,Tryz.ntmps204,by kernel_rfl,Hq1,by kernel_rfl⟩⟩
end GP
namespace GP
open Go Go.Proofs
open Rd O
set_option maxRecDepth 100000
def c21 : C :=
 (.seq (.reg [I1 1 (.box (t 0)),I1 2 (.mv KF)])
 (.seq (.reg [If 6 0 1,Il 7 6,Ip 8 52 [(t 7)],Im 3 8])
 (.seq (.reg [I1 4 (.mv (Ki 0))])
 (.seq (.seq (.reg [Im 9 3,I1 10 (.bin .eql (t 9) (Ki 2)),Im 11 10,Jm 12 11 false 3,I3 13 11 (.bin .eql (t 12) (Ki 6)),I1 14 (.pick (t 11) KT (t 13)),Im 15 14,Jf 16 15 false 0 1,Jl 17 15 false 16,I3 18 15 (.bin .eql (t 17) (Ks ([115,105,122,101]))),I1 19 (.pick (t 15) KT (t 18))])
 (.cond (t 19)
 (.reg [I1 4 (.mv (Ki 1))])
 .skip))
 (.seq (.seq (.reg [Im 20 3,I1 21 (.bin .eql (t 20) (Ki 0)),Im 22 21,Jm 23 22 false 3,I3 24 22 (.bin .eql (t 23) (Ki 1)),I1 25 (.pick (t 22) KT (t 24)),Im 26 25,Jm 27 26 false 3,I3 28 26 (.bin .geq (t 27) (Ki 3)),Jm 29 26 false 28,Jm 30 29 true 3,I2 31 29 (.bin .leq (t 30) (Ki 5)),I3 32 26 (.pick (t 29) (t 31) KF),I1 33 (.pick (t 26) KT (t 32))])
 (.cond (t 33)
 (.reg [I1 4 (.mv (Ki 2))])
 .skip))
 (.seq (.seq (.reg [Im 34 3,I1 35 (.bin .lss (t 34) (Ki 0)),Im 36 35,Jf 37 36 false 7 1,Jl 38 36 false 37,I3 39 36 (.len (t 38)),Jm 40 36 false 4,I3 41 36 (.bin .neq (t 39) (t 40)),I1 42 (.pick (t 36) KT (t 41))])
 (.cond (t 42)
 (.seq (.reg [I1 2 (.mv KF)])
 .ret)
 .skip))
 (.seq (.seq (.reg [I1 5 (.mv (Ki 0))])
 (.block 0
 (.loop
 (.seq (.seq (.reg [Im 43 5,If 44 7 1,Il 45 44,Iz 46 45,I1 47 (.bin .lss (t 43) (t 46))])
 (.cond (t 47)
 .skip
 (.exit 0)))
 (.seq (.block 1
 (.seq (.reg [If 50 7 1,Il 51 50,Im 52 5,I1 53 (.iaddr 8 (t 51) (t 52)),Ia 54 8 53,Ip 55 21 [(t 54)],I1 56 (.un .not (t 55))])
 (.cond (t 56)
 (.seq (.reg [I1 2 (.mv KF)])
 .ret)
 .skip)))
 (.reg [Im 48 5,I1 49 (.bin .add (t 48) (Ki 1)),Im 5 49]))))))
 (.seq (.seq (.reg [If 57 0 1,Il 58 57,I1 59 (.bin .eql (t 58) (Ks ([118,97,108,117,101])))])
 (.cond (t 59)
 (.seq (.reg [If 60 1 1,Ia 61 4 60,Ip 62 53 [(t 61)],Im 63 62,Jf 64 63 true 5 1,Jl 65 63 true 64,I2 66 63 (.bin .eql (t 65) (Ks ([]))),I1 67 (.pick (t 63) (t 66) KF),Im 68 67,Jf 69 68 true 6 1,Jl 70 68 true 69,I2 71 68 (.bin .eql (t 70) (Ks ([]))),I1 72 (.pick (t 68) (t 71) KF),Im 2 72])
 .ret)
 .skip))
 (.seq (.seq (.reg [If 73 1 1,Ia 74 4 73,I1 75 (.build [(.int .i64 0),(.int .i64 0),(.str []),.nils] []),Ip 76 54 [(t 74),(t 75)],I1 77 (.un .not (t 76))])
 (.cond (t 77)
 (.seq (.reg [I1 2 (.mv KF)])
 .ret)
 .skip))
 (.seq (.seq (.reg [If 78 0 1,Il 79 78,I1 80 (.bin .eql (t 79) (Ks ([97,116,116,114]))),Im 81 80,Jf 82 81 false 0 1,Jl 83 81 false 82,I3 84 81 (.bin .eql (t 83) (Ks ([104,97,115]))),I1 85 (.pick (t 81) KT (t 84))])
 (.cond (t 85)
 (.seq (.reg [If 86 5 1,Il 87 86,Ip 88 55 [(t 87)],Im 89 88,Jf 90 89 true 6 1,Jl 91 89 true 90,I2 92 89 (.pcall (Kf 56) [(t 91)]),I1 93 (.pick (t 89) (t 92) KF),Im 2 93])
 .ret)
 .skip))
 (.seq (.seq (.reg [If 94 0 1,Il 95 94,I1 96 (.bin .eql (t 95) (Ks ([114,111,108,101])))])
 (.cond (t 96)
 (.seq (.reg [If 97 5 1,Il 98 97,I1 99 (.bin .eql (t 98) (Ks ([]))),Im 100 99,Jf 101 100 true 6 1,Jl 102 100 true 101,I2 103 100 (.build [(.int .i64 0),(.str []),(.int .i64 0)] [(0,1,(Ki 3)),(1,1,(t 102))]),I2 104 100 (.pcall (Kf 57) [(t 103)]),I1 105 (.pick (t 100) (t 104) KF),Im 2 105])
 .ret)
 .skip))
 (.seq (.reg [If 106 5 1,Il 107 106,I1 108 (.bin .eql (t 107) (Ks ([]))),Im 109 108,Jf 110 109 true 6 1,Jl 111 109 true 110,I2 112 109 (.bin .eql (t 111) (Ks ([]))),I1 113 (.pick (t 109) (t 112) KF),Im 2 113])
 .ret))))))))))))
theorem fn21 : Fn Tryz.prog 21 114 [.inl 2] c21:=⟨⟨_,_,Tryz.func21,rfl,by kernel_rfl,Tryz.ntmps21,by kernel_rfl,Hq1,by kernel_rfl⟩⟩
def c25 : C :=
 (.seq (.reg [I1 1 (.box (t 0)),I1 2 (.mv KF)])
 (.seq (.reg [Ia 3 8 1,Ip 4 39 [(t 3),(Ki 60)],I1 5 (.bin .leq (t 4) (Ki 60)),Im 6 5,I2 7 6 (.load true 8 (t 1)),I2 8 6 (.pcall (Kf 63) [(t 7)]),I1 9 (.pick (t 6) (t 8) KF),Im 2 9])
 .ret))
theorem fn25 : Fn Tryz.prog 25 10 [.inl 2] c25:=⟨⟨_,_,Tryz.func25,rfl,by kernel_rfl,Tryz.ntmps25,by kernel_rfl,Hq1,by kernel_rfl⟩⟩
def c56 : C :=
 (.seq (.reg [I1 2 (.mv KF)])
 (.seq (.reg [Im 3 0,I1 4 (.build [(.int .i64 0),(.str []),(.int .i64 0)] [(0,1,(Ki 1)),(1,1,(t 3))]),Ip 5 57 [(t 4)],Im 6 5,I2 7 6 (.pcall (Kf 16) []),Jm 8 6 true 0,I2 9 6 (.pcall (Kf 62) [(t 7),(t 8)]),I2 10 6 (.un .not (t 9)),I1 11 (.pick (t 6) (t 10) KF),Im 2 11])
 .ret))
theorem fn56 : Fn Tryz.prog 56 12 [.inl 2] c56:=⟨⟨_,_,Tryz.func56,rfl,by kernel_rfl,Tryz.ntmps56,by kernel_rfl,Hq1,by kernel_rfl⟩⟩
def c78 : C :=
 (.seq (.reg [I1 1 (.box (t 0)),I1 2 (.mv KF)])
 (.seq (.block 0
 (.seq (.reg [Ia 4 4 1,Ip 5 129 [(t 4)],I1 6 (.un .not (t 5)),Im 3 6])
 (.cond (t 3)
 (.seq (.reg [I1 2 (.mv KF)])
 .ret)
 (.seq (.reg [If 8 0 1,Il 9 8,I1 10 (.bin .neq (t 9) (Ki 5)),Im 7 10])
 (.cond (t 7)
 (.seq (.reg [Ia 11 4 1,Ip 12 130 [(t 11),(Ki 0)],Im 2 12])
 .ret)
 .skip)))))
 (.seq (.reg [If 13 3 1,Il 14 13,Iz 15 14,I1 16 (.bin .gtr (t 15) (Ki 0)),Im 17 16,Jf 18 17 true 3 1,Jl 19 17 true 18,I2 20 17 (.pcall (Kf 131) [(t 19),(Kf 132)]),I2 21 17 (.un .not (t 20)),I1 22 (.pick (t 17) (t 21) KF),Im 2 22])
 .ret)))
theorem fn78 : Fn Tryz.prog 78 23 [.inl 2] c78:=⟨⟨_,_,Tryz.func78,rfl,by kernel_rfl,Tryz.ntmps78,by kernel_rfl,Hq1,by kernel_rfl⟩⟩
def c116 : C :=
 (.seq (.reg [I1 6 (.mv (Ki 0))])
 (.seq (.seq (.reg [Im 11 0,Iz 12 11,I1 13 (.mv (Ki 0))])
 (.block 0
 (.loop
 (.seq (.reg [I1 14 (.bin .lss (t 13) (t 12))])
 (.seq (.cond (t 14)
 .skip
 (.exit 0))
 (.seq (.block 1
 (.seq (.reg [Im 15 13,I1 16 (.iaddr 4 (t 11) (t 13)),Ia 17 4 16,I1 8 (.alloc [(.int .i64 0),(.int .i64 0),(.str []),.nils]),Im 7 15,Is 4 8 17])
 (.seq (.seq (.reg [Im 18 7,Im 19 1,Iz 20 19,I1 21 (.bin .geq (t 18) (t 20))])
 (.cond (t 21)
 (.seq (.reg [I1 6 (.mv (Ki 1))])
 .ret)
 .skip))
 (.seq (.reg [Im 22 1,Im 23 7,I1 24 (.iaddr 4 (t 22) (t 23)),Ia 25 4 24,I1 9 (.alloc [(.int .i64 0),(.int .i64 0),(.str []),.nils]),Is 4 9 25])
 (.seq (.reg [Im 26 2,Ia 27 4 8,Ia 28 4 9,I1 29 (.pcall (t 26) [(t 27),(t 28)]),Im 10 29])
 (.seq (.reg [Im 30 10,I1 31 (.bin .neq (t 30) (Ki 0))])
 (.cond (t 31)
 (.seq (.reg [Im 32 10,Im 6 32])
 .ret)
 .skip)))))))
 (.reg [I1 33 (.bin .add (t 13) (Ki 1)),Im 13 33])))))))
 (.seq (.seq (.reg [Im 34 0,Iz 35 34,Im 36 1,Iz 37 36,I1 38 (.bin .lss (t 35) (t 37))])
 (.cond (t 38)
 (.seq (.reg [I1 6 (.mv (k (.int .i64 (-1))))])
 .ret)
 .skip))
 (.seq (.reg [I1 6 (.mv (Ki 0))])
 .ret))))
theorem fn116 : Fn Tryz.prog 116 39 [.inl 6] c116:=⟨⟨_,_,Tryz.func116,rfl,by kernel_rfl,Tryz.ntmps116,by kernel_rfl,Hq1,by kernel_rfl⟩⟩
def c129 : C :=
 (.seq (.reg [I1 1 (.box (t 0)),I1 2 (.mv KF)])
 (.seq (.seq (.reg [If 5 0 1,Il 6 5,I1 7 (.bin .neq (t 6) (Ki 5))])
 (.cond (t 7)
 (.seq (.reg [Ia 8 4 1,Ip 9 179 [(t 8)],Im 2 9])
 .ret)
 .skip))
 (.seq (.seq (.reg [If 10 3 1,Il 11 10,Iz 12 11,I1 13 (.mv (Ki 0))])
 (.block 0
 (.loop
 (.seq (.reg [I1 14 (.bin .lss (t 13) (t 12))])
 (.seq (.cond (t 14)
 .skip
 (.exit 0))
 (.seq (.block 1
 (.seq (.reg [Im 15 13,I1 16 (.iaddr 4 (t 11) (t 13)),Ia 17 4 16,I1 4 (.alloc [(.int .i64 0),(.int .i64 0),(.str []),.nils]),Im 3 15,Is 4 4 17])
 (.seq (.draw 0 [(Ia 18 4 4,[]),(Ip 19 179 [(t 18)],[]),(I1 20 (.un .not (t 19)),[]),(Im 21 20,[]),(Jf 22 21 false 0 4,[]),(Jl 23 21 false 22,[]),(I3 24 21 (.bin .eql (t 23) (Ki 0)),[]),(I1 25 (.pick (t 21) KT (t 24)),[]),(Im 26 25,[]),(Jf 27 26 false 0 4,[]),(Jl 28 26 false 27,[]),(Jf 29 26 false 3 1,[]),(Jl 30 26 false 29,[]),(I3 31 26 (.iaddr 4 (t 30) (Ki 0)),[]),(Jf 32 26 false 0 31,[]),(Jl 33 26 false 32,[]),(I3 34 26 (.bin .neq (t 28) (t 33)),[]),(I1 35 (.pick (t 26) KT (t 34)),[]),(Im 36 35,[]),(Jm 37 36 false 3,[]),(I3 38 36 (.bin .gtr (t 37) (Ki 0)),[]),(Jm 39 36 false 38,[]),(Jf 40 39 true 3 1,[]),(Jl 41 39 true 40,[]),(Jm 42 39 true 3,[]),(I2 43 39 (.bin .sub (t 42) (Ki 1)),[]),(I2 44 39 (.iaddr 4 (t 41) (t 43)),[]),(I2 45 39 (.load true 4 (t 44)),[]),(I2 46 39 (.load true 4 (t 4)),[]),(I2 47 39 (.pcall (Kf 64) [(t 45),(t 46)]),[]),(I2 48 39 (.bin .geq (t 47) (Ki 0)),[]),(I3 49 36 (.pick (t 39) (t 48) KF),[]),(I1 50 (.pick (t 36) KT (t 49)),[])])
 (.cond (t 50)
 (.seq (.reg [I1 2 (.mv KF)])
 .ret)
 .skip))))
 (.reg [I1 51 (.bin .add (t 13) (Ki 1)),Im 13 51])))))))
 (.seq (.reg [If 52 1 1,Il 53 52,I1 54 (.bin .eql (t 53) (Ki 0)),Im 55 54,Jf 56 55 true 2 1,Jl 57 55 true 56,I2 58 55 (.bin .eql (t 57) (Ks ([]))),I1 59 (.pick (t 55) (t 58) KF),Im 60 59,Jf 61 60 true 3 1,Jl 62 60 true 61,I2 63 60 (.len (t 62)),I2 64 60 (.bin .leq (t 63) (Ki 16)),I1 65 (.pick (t 60) (t 64) KF),Im 2 65])
 .ret))))
theorem fn129 : Fn Tryz.prog 129 66 [.inl 2] c129:=⟨⟨_,_,Tryz.func129,rfl,by kernel_rfl,Tryz.ntmps129,by kernel_rfl,Hq1,by kernel_rfl⟩⟩
def c131 : C :=
 (.seq (.reg [I1 4 (.mv KF)])
 (.seq (.reg [Im 5 0,Im 6 1,Ip 7 180 [(t 5),(t 6)],I1 8 (.bin .geq (t 7) (Ki 0)),Im 4 8])
 .ret))
theorem fn131 : Fn Tryz.prog 131 9 [.inl 4] c131:=⟨⟨_,_,Tryz.func131,rfl,by kernel_rfl,Tryz.ntmps131,by kernel_rfl,Hq1,by kernel_rfl⟩⟩
def c134 : C :=
 (.seq (.reg [I1 2 (.mv KF)])
 (.seq (.reg [Im 3 0,I1 4 (.build [(.int .i64 0),(.str []),(.int .i64 0)] [(0,1,(Ki 1)),(1,1,(t 3))]),Ip 5 166 [(t 4)],Im 2 5])
 .ret))
theorem fn134 : Fn Tryz.prog 134 6 [.inl 2] c134:=⟨⟨_,_,Tryz.func134,rfl,by kernel_rfl,Tryz.ntmps134,by kernel_rfl,Hq1,by kernel_rfl⟩⟩
def c139 : C :=
 (.seq (.reg [I1 4 (.mv KN)])
 (.seq (.reg [I1 5 (.mv KN)])
 (.seq (.seq (.reg [Im 8 1,Iz 9 8,I1 10 (.mv (Ki 0))])
 (.block 0
 (.loop
 (.seq (.reg [I1 11 (.bin .lss (t 10) (t 9))])
 (.seq (.cond (t 11)
 .skip
 (.exit 0))
 (.seq (.block 1
 (.seq (.reg [I1 12 (.iaddr 1 (t 8) (t 10)),Il 13 12,Im 7 13])
 (.reg [Im 14 5,Im 15 0,Ip 16 87 [(t 15)],Im 17 7,I1 18 (.build [(.int .i64 0),(.str []),(.int .i64 0)] [(0,1,(Ki 3)),(1,1,(t 17))]),I1 19 (.bsl 3 [(t 16),(t 18)]),I1 20 (.app false 3 32 (t 14) (t 19)),Im 5 20])))
 (.reg [I1 21 (.bin .add (t 10) (Ki 1)),Im 10 21])))))))
 (.seq (.reg [Im 22 5,Im 4 22])
 .ret))))
theorem fn139 : Fn Tryz.prog 139 23 [.inl 4] c139:=⟨⟨_,_,Tryz.func139,rfl,by kernel_rfl,Tryz.ntmps139,by kernel_rfl,Hq1,by kernel_rfl⟩⟩
def c147 : C :=
 (.seq (.reg [I1 2 (.mv KF)])
 (.seq (.reg [Im 3 0,I1 4 (.bin .geq (t 3) (k (.int .u8 97))),Im 5 4,Jm 6 5 true 0,I2 7 5 (.bin .leq (t 6) (k (.int .u8 122))),I1 8 (.pick (t 5) (t 7) KF),Im 9 8,Jm 10 9 false 0,I3 11 9 (.bin .eql (t 10) (k (.int .u8 95))),I1 12 (.pick (t 9) KT (t 11)),Im 2 12])
 .ret))
theorem fn147 : Fn Tryz.prog 147 13 [.inl 2] c147:=⟨⟨_,_,Tryz.func147,rfl,by kernel_rfl,Tryz.ntmps147,by kernel_rfl,Hq1,by kernel_rfl⟩⟩
def c148 : C :=
 (.seq (.reg [I1 2 (.mv KF)])
 (.seq (.reg [Im 3 0,I1 4 (.bin .geq (t 3) (k (.int .u8 48))),Im 5 4,Jm 6 5 true 0,I2 7 5 (.bin .leq (t 6) (k (.int .u8 57))),I1 8 (.pick (t 5) (t 7) KF),Im 2 8])
 .ret))
theorem fn148 : Fn Tryz.prog 148 9 [.inl 2] c148:=⟨⟨_,_,Tryz.func148,rfl,by kernel_rfl,Tryz.ntmps148,by kernel_rfl,Hq1,by kernel_rfl⟩⟩
def c174 : C :=
 (.seq (.reg [I1 2 (.mv KF)])
 (.seq (.reg [Im 3 0,Im 4 0,I1 5 (.bin .neq (t 3) (t 4)),Im 2 5])
 .ret))
theorem fn174 : Fn Tryz.prog 174 6 [.inl 2] c174:=⟨⟨_,_,Tryz.func174,rfl,by kernel_rfl,Tryz.ntmps174,by kernel_rfl,Hq1,by kernel_rfl⟩⟩
def c180 : C :=
 (.seq (.reg [I1 4 (.mv (Ki 0))])
 (.seq (.seq (.reg [Im 6 0,Iz 7 6,I1 8 (.mv (Ki 0))])
 (.block 0
 (.loop
 (.seq (.reg [I1 9 (.bin .lss (t 8) (t 7))])
 (.seq (.cond (t 9)
 .skip
 (.exit 0))
 (.seq (.block 1
 (.seq (.reg [Im 10 8,Im 5 10])
 (.seq (.reg [Im 11 1,Im 12 0,Im 13 5,I1 14 (.iaddr 4 (t 12) (t 13)),Ia 15 4 14,I1 16 (.pcall (t 11) [(t 15)])])
 (.cond (t 16)
 (.seq (.reg [Im 17 5,Im 4 17])
 .ret)
 .skip))))
 (.reg [I1 18 (.bin .add (t 8) (Ki 1)),Im 8 18])))))))
 (.seq (.reg [I1 4 (.mv (k (.int .i64 (-1))))])
 .ret)))
theorem fn180 : Fn Tryz.prog 180 19 [.inl 4] c180:=⟨⟨_,_,Tryz.func180,rfl,by kernel_rfl,Tryz.ntmps180,by kernel_rfl,Hq1,by kernel_rfl⟩⟩
def c181 : C :=
 (.seq (.reg [I1 1 (.box (t 0)),I1 2 (.mv KF)])
 (.seq (.reg [If 3 0 1,Il 4 3,I1 5 (.bin .eql (t 4) (Ks ([]))),Im 6 5,Jf 7 6 true 5 1,Jl 8 6 true 7,I2 9 6 (.bin .eql (t 8) (Ks ([]))),I1 10 (.pick (t 6) (t 9) KF),Im 11 10,Jf 12 11 true 6 1,Jl 13 11 true 12,I2 14 11 (.bin .eql (t 13) (Ks ([]))),I1 15 (.pick (t 11) (t 14) KF),Im 16 15,Jf 17 16 true 7 1,Jl 18 16 true 17,I2 19 16 (.len (t 18)),I2 20 16 (.bin .eql (t 19) (Ki 0)),I1 21 (.pick (t 16) (t 20) KF),Im 22 21,Jf 23 22 true 1 1,I2 24 22 (.load true 4 (t 23)),I2 25 22 (.build [(.int .i64 0),(.int .i64 0),(.str []),.nils] []),I2 26 22 (.pcall (Kf 64) [(t 24),(t 25)]),I2 27 22 (.bin .eql (t 26) (Ki 0)),I1 28 (.pick (t 22) (t 27) KF),Im 2 28])
 .ret))
theorem fn181 : Fn Tryz.prog 181 29 [.inl 2] c181:=⟨⟨_,_,Tryz.func181,rfl,by kernel_rfl,Tryz.ntmps181,by kernel_rfl,Hq1,by kernel_rfl⟩⟩
end GP
namespace GP
open Go Go.Proofs
open Rd O
set_option maxRecDepth 100000
def c176 : C :=
 (.seq (.reg [I1 4 (.mv (Ki 0))])
 (.seq (.reg [Im 5 0,Im 6 1,Ip 7 205 [(t 5),(t 6)],Im 4 7])
 .ret))
theorem fn176 : Fn Tryz.prog 176 8 [.inl 4] c176:=⟨⟨_,_,Tryz.func176,rfl,by kernel_rfl,Tryz.ntmps176,by kernel_rfl,Hq1,by kernel_rfl⟩⟩
end GP
namespace GP
open Go Go.Proofs
theorem gPow : Tryz.prog.globalNamed "internal/strconv.uint64pow10" = some 1 := by kernel_rfl
def Vars (c : Cx) (w : World) : Prop := c.bb.1 = false /\ 2 <= c.B /\ Lib.TabIs Tryz.prog w "internal/strconv.uint64pow10" .u64 Lib.pow10Tab
theorem Vars.mono {c c' : Cx} {w w' : World} (hle : c.le c') (hb : Below c.bb w w') (h : Vars c w) : Vars c' w':=by
 obtain ⟨h0,h1,h2⟩:=h
 refine ⟨by rw [hle.B];exact h0,by show 2 <= c'.bb.2;rw [hle.B];exact h1,?_⟩
 ·unfold Lib.TabIs World.var? at h2 ⊢
  rw [gPow] at h2 ⊢
  simp only [Option.bind_some] at h2 ⊢
  rw [hb.block 1 (by have h1' : 2 <= c.bb.2:=h1;omega)];exact h2
instance hasG : HasG Tryz.prog:=⟨Vars,Vars.mono⟩
theorem ok_lib {f : FuncId} {φ : List D -> Option D}
  (h : ∀ args r,φ args = some r -> ∀ (c : Cx) (w : World) (vs : List Value),HasG.G Tryz.prog c w -> Reps c args vs -> (callFunc f vs.toArray).run Tryz.prog w = .ok (.enter f vs.toArray) w ∧
   Calls Tryz.prog f vs.toArray w fun e w'=>∃ v,e = .returned v /\ Rep c r v /\ Below (false,w.heap.size) w w') : OkAt Tryz.prog f φ:=by
 intro args r hr args' he H T Q hQ c w vs hg k1 k2 k3
 have k3' : Reps c args vs:=by rw [<- he];exact k3.erase
 obtain ⟨g1,g2⟩:=h args r hr c w vs hg k3'
 refine .inl ⟨g1,g2.mono ?_⟩
 rintro e w' ⟨v,rfl,h1,h2⟩
 exact ⟨v,rfl,r,H,T,c,hQ,h1,k1.grownB h2,Cx.le.refl c,k2,by have:=h2.mono k1.low;rwa [show ((false,c.B) : Bool × Nat) = c.bb by rw [<- hg.1]] at this⟩
end GP
namespace GP
open Go
theorem tf (b : Bool) : b = true ∨ b = false:=by cases b <;> simp
theorem flatD_cons (x : D) (xs : List D) : flatD (x :: xs) = x.cells ++ flatD xs:=by simp [flatD]
theorem flatD_append (xs ys : List D) : flatD (xs ++ ys) = flatD xs ++ flatD ys:=by simp [flatD]
def isAg (sz : Nat) (xs : List D) : Prop:=∀ x ∈ xs,∃ l,x = .agg l /\ l.length = sz
theorem isAg.len {sz : Nat} {xs : List D} (h : isAg sz xs) : ∀ x ∈ xs,x.cells.length = sz:=fun x hx=>by
 obtain ⟨l,rfl,hl⟩:=h x hx;exact hl
theorem isAg.fit {sz : Nat} {xs : List D} (h : isAg sz xs) : xs.all (fit sz) = true:=List.all_eq_true.2 fun x hx=>by
 obtain ⟨l,rfl,hl⟩:=h x hx;simp [GP.fit,D.okc,D.cells,hl]
theorem isAg.flat {sz : Nat} {xs : List D} (h : isAg sz xs) : (flatD xs).length = xs.length * sz:=flatD_len h.len
theorem isAg.sub {sz : Nat} {xs ys : List D} (h : isAg sz xs) (k : ∀ y ∈ ys,y ∈ xs) : isAg sz ys:=fun y hy=>h y (k y hy)
theorem isAg.set {sz : Nat} {xs : List D} (h : isAg sz xs) {x : D} (hx : ∃ l,x = .agg l /\ l.length = sz) (i : Nat) : isAg sz (xs.set i x):=fun y hy=>by
 rcases List.mem_or_eq_of_mem_set hy with h' | rfl
 ·exact h y h'
 ·exact hx
theorem chunk_flat {sz : Nat} : ∀ (xs : List D) (rest : List D),isAg sz xs -> chunk true sz xs.length (flatD xs ++ rest) = xs
 | [],_,_=>rfl
 | x :: xs,rest,h=>by
  obtain ⟨l,rfl,hl⟩:=h x (by simp)
  simp only [List.length_cons,chunk,if_true,flatD_cons,D.cells,List.append_assoc]
  rw [List.take_left' hl,List.drop_left' hl,chunk_flat xs rest (h.sub fun y hy=>by simp [hy])]
end GP
namespace GP
open Go Go.Proofs
set_option maxRecDepth 100000
theorem wrapD (a : Int) : IntKind.i64.wrap a = if a % 2 ^ 64 ≥ 2 ^ 63 then a % 2 ^ 64 - 2 ^ 64 else a % 2 ^ 64:=by simp [IntKind.wrap,IntKind.bits,IntKind.signed]
theorem wrap_in {a : Int} (h1 : -(2 ^ 63) <= a) (h2 : a < 2 ^ 63) : IntKind.i64.wrap a = a:=by rw [wrapD];split <;> omega
theorem wrap_su (n : Nat) (h : n < 2 ^ 61) : IntKind.i64.wrap ((n : Int) + 1) = ((n + 1 : Nat) : Int):=by rw [wrap_in (by omega) (by omega)];rfl
theorem ixs_s (l : List UInt8) (k : IntKind) (n : Int) : ixs (.str l) (.int k n) = if 0 <= n then (l[n.toNat]?).map fun b=>.int .u8 b.toNat else none:=rfl
theorem ixs_at {l : List UInt8} {i : Nat} {b : UInt8} (h : l[i]? = some b) (k : IntKind) : ixs (.str l) (.int k (i : Int)) = some (.int .u8 b.toNat):=by
 rw [ixs_s,if_pos (by omega)];simp [h]
def pSmall (n : Int) : Bool:=(decide (97 <= n) && decide (n <= 122)) || n == 95
def pDigit (n : Int) : Bool:=decide (48 <= n) && decide (n <= 57)
def pWord (n : Int) : Bool:=pSmall n || pDigit n
def pText (n : Int) : Bool:=decide (32 <= n) && decide (n <= 126)
def pNote (n : Int) : Bool:=n != 10
def φb (p : Int -> Bool) : List D -> Option D
 | [.int .u8 n]=>some (.bool (p n))
 | _=>none
theorem ok147 : OkAt Tryz.prog 147 (φb pSmall):=by
 refine ok_of (l:=[]) .nil fn147 fun args r h=>?_
 unfold φb at h
 split at h
 ·rename_i n
  injection h with h;subst h
  refine ⟨by simp,by simp [D.cl],fun H T=>?_⟩
  unfold pSmall
  rcases tf (decide (97 <= n)) with h1 | h1
  ·rcases tf (decide (n <= 122)) with h2 | h2
   ·simp +contextual (maxSteps:=10000000) only [c147,h1,h2,go_sem]
   ·simp +contextual (maxSteps:=10000000) only [c147,h1,h2,go_sem]
  ·simp +contextual (maxSteps:=10000000) only [c147,h1,go_sem]
 ·cases h
theorem ok148 : OkAt Tryz.prog 148 (φb pDigit):=by
 refine ok_of (l:=[]) .nil fn148 fun args r h=>?_
 unfold φb at h
 split at h
 ·rename_i n
  injection h with h;subst h
  refine ⟨by simp,by simp [D.cl],fun H T=>?_⟩
  unfold pDigit
  rcases tf (decide (48 <= n)) with h1 | h1 <;> simp +contextual (maxSteps:=10000000) only [c148,h1,go_sem]
 ·cases h
theorem ok200 : OkAt Tryz.prog 200 (φb pText):=by
 refine ok_of (l:=[]) .nil fn200 fun args r h=>?_
 unfold φb at h
 split at h
 ·rename_i n
  injection h with h;subst h
  refine ⟨by simp,by simp [D.cl],fun H T=>?_⟩
  unfold pText
  rcases tf (decide (32 <= n)) with h1 | h1 <;> simp +contextual (maxSteps:=10000000) only [c200,h1,go_sem]
 ·cases h
theorem ok145 : OkAt Tryz.prog 145 (φb pNote):=by
 refine ok_of (l:=[]) .nil fn145 fun args r h=>?_
 unfold φb at h
 split at h
 ·rename_i n
  injection h with h;subst h
  refine ⟨by simp,by simp [D.cl],fun H T=>?_⟩
  unfold pNote
  simp +contextual (maxSteps:=10000000) only [c145,go_sem]
 ·cases h
theorem ok199 : OkAt Tryz.prog 199 (φb pWord):=by
 refine ok_of (l:=[(147,φb pSmall),(148,φb pDigit)]) (.cons ok147 (.cons ok148 .nil)) fn199 fun args r h=>?_
 unfold φb at h
 split at h
 ·rename_i n
  injection h with h;subst h
  refine ⟨by simp,by simp [D.cl],fun H T=>?_⟩
  unfold pWord
  have p1 : φb pSmall [.int .u8 n] = some (.bool (pSmall n)):=rfl
  have p2 : φb pDigit [.int .u8 n] = some (.bool (pDigit n)):=rfl
  rcases tf (pSmall n) with h1 | h1 <;> simp +contextual (maxSteps:=10000000) only [c199,p1,p2,h1,go_sem]
 ·cases h
theorem ok146 : OkAt Tryz.prog 146 (φb pWord):=by
 refine ok_of (l:=[(147,φb pSmall),(148,φb pDigit)]) (.cons ok147 (.cons ok148 .nil)) fn146 fun args r h=>?_
 unfold φb at h
 split at h
 ·rename_i n
  injection h with h;subst h
  refine ⟨by simp,by simp [D.cl],fun H T=>?_⟩
  unfold pWord
  have p1 : φb pSmall [.int .u8 n] = some (.bool (pSmall n)):=rfl
  have p2 : φb pDigit [.int .u8 n] = some (.bool (pDigit n)):=rfl
  rcases tf (pSmall n) with h1 | h1 <;> simp +contextual (maxSteps:=10000000) only [c146,p1,p2,h1,go_sem]
 ·cases h
def runL (p : Int -> Bool) (l : List UInt8) : Nat:=(l.takeWhile fun b=>p (b.toNat : Int)).length
def runN (p : Int -> Bool) (l : List UInt8) (a : Nat) : Nat:=runL p (l.drop a)
theorem runL_eq {p : Int -> Bool} : ∀ {l : List UInt8} {i : Nat},(∀ j b,j < i -> l[j]? = some b -> p b.toNat = true) -> i <= l.length -> (i = l.length ∨ ∃ b,l[i]? = some b /\ p b.toNat = false) -> runL p l = i
 | [],i,_,h,_=>by simp at h;subst h;rfl
 | c :: l,0,_,_,h=>by
  rcases h with h | ⟨b,h1,h2⟩
  ·simp at h
  ·simp at h1;subst h1;simp [runL,h2]
 | c :: l,i + 1,h,hi,he=>by
  have hc:=h 0 c (by omega) rfl
  have:=runL_eq (p:=p) (l:=l) (i:=i) (fun j b hj hb=>h (j + 1) b (by omega) (by simpa using hb)) (by simpa using hi) (by simpa using he)
  simp only [runL,List.takeWhile_cons,hc,if_true,List.length_cons] at this ⊢
  omega
theorem runN_eq {p : Int -> Bool} {l : List UInt8} {a i : Nat} (h : ∀ j b,j < i -> l[a + j]? = some b -> p b.toNat = true) (hi : a + i <= l.length) (he : a + i = l.length ∨ ∃ b,l[a + i]? = some b /\ p b.toNat = false) : runN p l a = i :=
 runL_eq (fun j b hj hb=>h j b hj (by simpa using hb)) (by simp;omega) (he.imp (fun h=>by simp;omega) (fun ⟨b,h1,h2⟩=>⟨b,by simpa using h1,h2⟩))
def sorts (f : Nat) : Option (Int -> Bool):=if f = 199 then some pWord else if f = 148 then some pDigit else if f = 200 then some pText else if f = 145 then some pNote else if f = 146 then some pWord else none
def lst : Fs:=[(199,φb pWord),(148,φb pDigit),(200,φb pText),(145,φb pNote),(146,φb pWord)]
theorem lst_ok : Ok Tryz.prog lst:=.cons ok199 (.cons ok148 (.cons ok200 (.cons ok145 (.cons ok146 .nil))))
theorem lst_look {f : Nat} {p : Int -> Bool} (h : sorts f = some p) (n : Int) : look lst f [.int .u8 n] = some (.bool (p n)):=by
 unfold sorts at h
 split at h
 ·rename_i e;subst e;injection h with h;subst h;rfl
 split at h
 ·rename_i e;subst e;injection h with h;subst h;rfl
 split at h
 ·rename_i e;subst e;injection h with h;subst h;rfl
 split at h
 ·rename_i e;subst e;injection h with h;subst h;rfl
 split at h
 ·rename_i e;subst e;injection h with h;subst h;rfl
 ·cases h
def φrun : List D -> Option D
 | [.str l,.int .i64 a,.fn f [] []]=>match sorts f with
  | some p=>if 0 <= a /\ a <= l.length /\ l.length <= 2 ^ 60 then some (.int .i64 (runN p l a.toNat)) else none
  | none=>none
 | _=>none
set_option maxHeartbeats 2000000 in
theorem ok144 : OkAt Tryz.prog 144 φrun:=by
 refine ok_of lst_ok fn144 fun args r h=>?_
 unfold φrun at h
 split at h
 ·rename_i l a f
  split at h
  ·rename_i p hp
   split at h
   ·rename_i hc
    obtain ⟨ha0,ha,hl⟩:=hc
    injection h with h;subst h
    obtain ⟨a,rfl⟩ : ∃ k : Nat,a = (k : Int):=⟨a.toNat,by omega⟩
    have ha : a <= l.length:=by omega
    refine ⟨by simp,by simp [D.cl],fun H T=>?_⟩
    rw [show ((a : Int)).toNat = a from by omega]
    have pl:=fun n=>lst_look hp n
    simp +contextual (maxSteps:=10000000) only [c144,go_sem]
    refine W_for (fun i s'=>s'.t 0 = .str l /\ s'.t 1 = .int .i64 a /\ s'.t 2 = .fn f [] [] /\ s'.t 7 = .int .i64 ((a + i : Nat) : Int) /\ s'.H = H /\ s'.T = T /\ a + i <= l.length /\ ∀ j b,j < i -> l[a + j]? = some b -> p b.toNat = true) l.length ⟨0,by simp [upd,argT,ha]⟩ (fun i s h=>by have:=h.2.2.2.2.2.2.1;omega) ?_ (XL_mono _)
    rintro i ⟨t,B,T'⟩ ⟨r0,r1,r2,r7,rfl,rfl,hi,hc⟩
    simp only at r0 r1 r2 r7
    have fin : ∀ {k : Nat},k = i -> (a + k = l.length ∨ ∃ b,l[a + k]? = some b /\ p b.toNat = false) -> runN p l a = k:=fun e h=>by subst e;exact runN_eq hc hi h
    have wS : IntKind.i64.wrap (((a + i : Nat) : Int) - (a : Int)) = (i : Int):=by rw [wrap_in (by omega) (by omega)];omega
    by_cases hlt : a + i < l.length
    ·have d1 : decide (((a + i : Nat) : Int) < l.length) = true:=by simp only [decide_eq_true_eq];omega
     have ex : l[a + i]? = some l[a + i]:=by simp [hlt]
     obtain ⟨b,hb⟩ : ∃ b,l[a + i] = b:=⟨_,rfl⟩
     rw [hb] at ex
     have q:=pl (b.toNat : Int)
     have ix:=fun k=>ixs_at ex k
     rcases tf (p (b.toNat : Int)) with g | g
     ·have hnx : ∀ j b,j < i + 1 -> l[a + j]? = some b -> p b.toNat = true:=fun j c hj hc'=>by
       rcases Nat.lt_or_ge j i with h' | h'
       ·exact hc j c h' hc'
       ·have : j = i:=by omega
        subst this;rw [ex] at hc';injection hc' with hc';subst hc';exact g
      simp +contextual (maxSteps:=10000000) only [r0,r1,r2,r7,d1,ix,q,g,wrap_su (a + i) (by omega),go_sem]
      exact ⟨by rw [Nat.add_assoc],by omega,hnx⟩
     ·have hr:=fin rfl (.inr ⟨b,ex,g⟩)
      rw [hr]
      simp +contextual (maxSteps:=10000000) only [r0,r1,r2,r7,d1,ix,q,g,wS,go_sem]
    ·have d1 : decide (((a + i : Nat) : Int) < l.length) = false:=by simp only [decide_eq_false_iff_not];omega
     have hr:=fin rfl (.inl (by omega))
     rw [hr]
     simp +contextual (maxSteps:=10000000) only [r0,r1,r2,r7,d1,wS,go_sem]
   ·cases h
  ·cases h
 ·cases h
end GP
namespace GP
open Go Go.Proofs
set_option maxRecDepth 100000
theorem drop_at {l : List UInt8} {a : Nat} {b : UInt8} (h : l[a]? = some b) : l.drop a = b :: l.drop (a + 1):=by
 have hlt : a < l.length:=by
  rcases Nat.lt_or_ge a l.length with h' | h'
  ·exact h'
  ·rw [List.getElem?_eq_none h'] at h;cases h
 have : l[a] = b:=by simpa [hlt] using h
 rw [<- this];exact List.drop_eq_getElem_cons hlt
theorem u8_eq (b : UInt8) (n : Nat) (hn : n < 256) : ((b.toNat : Int) == (n : Int)) = (b == UInt8.ofNat n):=by
 rw [Bool.eq_iff_iff,beq_iff_eq,beq_iff_eq]
 constructor
 ·intro h
  have h : b.toNat = n:=by omega
  rw [<- h];simp
 ·rintro rfl
  simp [UInt8.toNat_ofNat,Nat.mod_eq_of_lt hn]
def signsB : List (List UInt8):=[[61,61],[33,61],[60,61],[62,61],[123],[125],[40],[41],[91],[93],[59],[46],[44],[43],[45],[42],[60],[62]]
def φsigns : List D -> Option D
 | []=>some (.sl none (signsB.map .str))
 | _=>none
theorem ok151 : OkAt Tryz.prog 151 φsigns:=by
 refine ok_of (l:=[]) .nil fn151 fun args r h=>?_
 unfold φsigns at h
 split at h
 ·injection h with h;subst h
  refine ⟨by simp,by decide,fun H T=>?_⟩
  simp +contextual (maxSteps:=10000000) only [c151,go_sem]
  rfl
 ·cases h
end GP
namespace GP
open Go Go.Proofs
set_option maxRecDepth 100000
theorem byteD_len (l : List UInt8) : (byteD l).length = l.length:=by simp [byteD]
theorem byteD_app (l : List UInt8) (c : UInt8) : byteD (l ++ [c]) = byteD l ++ [.int .u8 c.toNat]:=by simp [byteD]
theorem byteD_isByte (l : List UInt8) : (byteD l).all isByte = true:=List.all_eq_true.2 fun x hx=>by
 obtain ⟨b,_,rfl⟩:=List.mem_map.1 hx
 have:=b.toNat_lt
 simp [isByte];try omega
theorem byteD_un (l : List UInt8) : (byteD l).map unbyte = l:=by
 induction l with
 | nil=>rfl
 | cons b l ih =>
  have : unbyte (.int .u8 (b.toNat : Int)) = b:=by simp [unbyte]
  simp only [byteD,List.map_cons] at ih ⊢
  rw [this,ih]
theorem byteD_fit (l : List UInt8) : (byteD l).all (fit 1) = true:=List.all_eq_true.2 fun x hx=>by
 obtain ⟨b,_,rfl⟩:=List.mem_map.1 hx;rfl
theorem b2s_byteD (t : Option Nat) (l : List UInt8) : b2sD (.sl t (byteD l)) = some (.str l):=by
 simp only [b2sD,byteD_isByte,if_true,byteD_un]
def accB (T : Tk) (out : List UInt8) (d : D) (T' : Tk) : Prop:=(out = [] /\ d = .nils /\ T' = T) ∨ (out ≠ [] /\ ∃ L i,T' = T ++ L /\ d = .sl (some (T.length + i)) (byteD out) /\ L[i]? = some (some (out.length,1)))
theorem accB_b2s {T : Tk} {out : List UInt8} {d : D} {T' : Tk} (h : accB T out d T') : b2sD d = some (.str out):=by
 rcases h with ⟨rfl,rfl,_⟩ | ⟨_,L,i,_,rfl,_⟩
 ·rfl
 ·exact b2s_byteD _ _
theorem app_acc {sz : Nat} {K : D -> S -> Prop} {t : Nat -> D} {H : Hp} {T T' : Tk} {out : List UInt8} {d : D} (c : UInt8) (h : accB T out d T') (ho : out.length <= 2 ^ 40) (hs : sz = 1)
  (k : ∀ d2 T2,accB T (out ++ [c]) d2 T2 -> (∃ n,lenD d2 = some n /\ n = out.length + 1) -> K d2 ⟨t,H,T2⟩) : appK sz 1 K ⟨t,H,T' ++ [some (1,1)]⟩ d (some [.int .u8 (c.toNat : Int)]):=by
 subst hs
 rcases h with ⟨rfl,rfl,rfl⟩ | ⟨h0,L,i,rfl,rfl,hL⟩
 ·rw [appK_nils1]
  refine ⟨rfl,by simp,by simp,k _ _ (.inr ⟨by simp,[some (1,1),some (1,1)],1,?_,?_,rfl⟩) ⟨_,rfl,rfl⟩⟩
  ·simp
  ·simp [byteD]
 ·have hi : i < L.length:=by
   rcases Nat.lt_or_ge i L.length with h | h
   ·exact h
   ·rw [List.getElem?_eq_none h] at hL;cases hL
  rw [List.append_assoc,appK_tok]
  refine ⟨rfl,?_,?_,?_,byteD_fit out,k _ _ (.inr ⟨by simp,_,i,rfl,by rw [byteD_app],?_⟩) ⟨_,rfl,by simp [byteD_len]⟩⟩
  ·rw [byteD_len,List.getElem?_append_left hi,hL]
  ·simp [byteD_len];omega
  ·simp [byteD_len];omega
  ·rw [List.getElem?_set_self (by simp;omega),byteD_len];simp
theorem accB_ext {T : Tk} {out : List UInt8} {d : D} {T' : Tk} (h : accB T out d T') : ExtT T T':=by
 rcases h with ⟨_,_,rfl⟩ | ⟨_,L,_,rfl,_⟩
 ·exact ExtT.refl _
 ·exact ExtT.of T L
end GP
namespace Go.Proofs
open Go.Shelf
shelf_lay LaysC.n174 Nm 174 at Tryz as Tryz.laysPI
shelf_lay LaysM.n173 Nm 173 at Tryz as Tryz.laysFI
theorem Tryz.format (n : Int) (h0 : -9223372036854775808 <= n) (h1 : n <= 9223372036854775807) (w : World)
  (htab : Lib.TabIs Tryz.prog w "internal/strconv.uint64pow10" .u64 Lib.pow10Tab) :
  Calls Tryz.prog 167 #[.int .i64 n,.int .i64 10] w fun e w'=>e = .returned (.string ⟨(Lib.itoa n).toArray⟩) /\ ∃ k os,w' = Go.Sort.grow (w.drewN k) os:=Any.strconv_FormatInt_10 Tryz.laysFI n h0 h1 w htab
end Go.Proofs
namespace GP
open Go Go.Proofs
set_option maxRecDepth 100000
def isDig (b : UInt8) : Bool:=pDigit (b.toNat : Int)
theorem isDig_iff {b : UInt8} : isDig b = true ↔ 48 <= b.toNat /\ b.toNat <= 57:=by
 unfold isDig pDigit;simp only [Bool.and_eq_true,decide_eq_true_eq];omega
def decA (acc : Nat) (l : List UInt8) : Nat:=l.foldl (fun n b=>n * 10 + (b.toNat - 48)) acc
def decV (l : List UInt8) : Nat:=decA 0 l
theorem sub_drop (l : List UInt8) (a n : Nat) : subList l a (a + n) = (l.drop a).take n:=by
 unfold subList;rw [List.drop_take];congr 1;omega
end GP
namespace GP
open Go Go.Proofs
set_option maxRecDepth 100000
def mkT (k : Int) (s : List UInt8) (n : Int) : D:=.agg [.int .i64 k,.str s,.int .i64 n]
end GP
namespace GP
open Go Go.Proofs
set_option maxRecDepth 100000
def pLet (n : Int) : Bool:=decide (97 <= n) && decide (n <= 122)
theorem pWord_let (n : Int) : pWord n = (pLet n || n == 95 || pDigit n):=rfl
theorem ok162 : OkAt Tryz.prog 162 (φb pLet):=by
 refine ok_of (l:=[]) .nil fn162 fun args r h=>?_
 unfold φb at h
 split at h
 ·rename_i n
  injection h with h;subst h
  refine ⟨by simp,by simp [D.cl],fun H T=>?_⟩
  unfold pLet
  rcases tf (decide (97 <= n)) with h1 | h1 <;> simp +contextual (maxSteps:=10000000) only [c162,h1,go_sem]
 ·cases h
theorem ok163 : OkAt Tryz.prog 163 (φb pDigit):=by
 refine ok_of (l:=[]) .nil fn163 fun args r h=>?_
 unfold φb at h
 split at h
 ·rename_i n
  injection h with h;subst h
  refine ⟨by simp,by simp [D.cl],fun H T=>?_⟩
  unfold pDigit
  rcases tf (decide (48 <= n)) with h1 | h1 <;> simp +contextual (maxSteps:=10000000) only [c163,h1,go_sem]
 ·cases h
def signsR : List (List UInt8):=[[123],[125],[40],[41],[91],[93],[59],[46],[44],[43],[45],[42],[60],[62],[61,61],[33,61],[60,61],[62,61]]
def φsignsR : List D -> Option D
 | []=>some (.sl none (signsR.map .str))
 | _=>none
theorem ok173 : OkAt Tryz.prog 173 φsignsR:=by
 refine ok_of (l:=[]) .nil fn173 fun args r h=>?_
 unfold φsignsR at h
 split at h
 ·injection h with h;subst h
  refine ⟨by simp,by decide,fun H T=>?_⟩
  simp +contextual (maxSteps:=10000000) only [c173,go_sem]
  rfl
 ·cases h
def isSign (s : List UInt8) : Bool:=signsR.any (fun x=>x == s)
def φsign : List D -> Option D
 | [.str s]=>some (.bool (isSign s))
 | _=>none
theorem any_take_no {α : Type} {p : α -> Bool} {xs : List α} {i : Nat} {x : α} (hx : xs[i]? = some x) (h : (xs.take i).any p = false) (hp : p x = false) : (xs.take (i + 1)).any p = false:=by
 rw [List.take_add_one,hx];simp [h,hp]
theorem any_hit {α : Type} {p : α -> Bool} {xs : List α} {i : Nat} {x : α} (hx : xs[i]? = some x) (hp : p x = true) : xs.any p = true:=List.any_eq_true.2 ⟨x,List.mem_of_getElem? hx,hp⟩
theorem ok110 : OkAt Tryz.prog 110 φsign:=by
 refine ok_of (l:=[(173,φsignsR)]) (.cons ok173 .nil) fn110 fun args r h=>?_
 unfold φsign at h
 split at h
 ·rename_i s
  injection h with h;subst h
  refine ⟨by simp,by simp [D.cl],fun H T=>?_⟩
  have ps : φsignsR [] = some (.sl none (signsR.map .str)):=rfl
  have eS : D.eraseL (signsR.map D.str) = signsR.map D.str:=rfl
  have lS : (signsR.map D.str).length = 18:=rfl
  have get : ∀ j,j < 18 -> ∃ x,(signsR.map D.str)[j]? = some (.str x) /\ signsR[j]? = some x:=fun j h=>by
   have hl : j < signsR.length:=h
   exact ⟨signsR[j],by simp [hl],by simp [hl]⟩
  obtain ⟨SB,hSB⟩ : ∃ z,signsR.map D.str = z:=⟨_,rfl⟩
  rw [hSB] at ps eS lS get
  simp +contextual (maxSteps:=10000000) only [c110,ps,eS,go_sem]
  refine W_for (fun j s'=>s'.t 0 = .str s /\ s'.t 3 = .sl none SB /\ s'.t 4 = .int .i64 (j : Nat) /\ s'.H = H /\ s'.T = T /\ j <= 18 /\ (signsR.take j).any (fun x=>x == s) = false) 18 ⟨0,by simp [upd,argT]⟩ (fun i s h=>h.2.2.2.2.2.1) ?_ (XL_mono _)
  rintro j ⟨t,B,T'⟩ ⟨r0,r3,r4,rfl,rfl,hj,hc⟩
  simp only at r0 r3 r4
  by_cases hlt : j < 18
  ·have d1 : decide (((j : Nat) : Int) < SB.length) = true:=by rw [lS];simp only [decide_eq_true_eq];omega
   obtain ⟨x,f1,f2⟩:=get j hlt
   rcases tf (x == s) with q | q
   ·have hT : isSign s = true:=any_hit (p:=fun x=>x == s) f2 q
    rw [hT]
    simp +contextual (maxSteps:=10000000) only [r0,r3,r4,d1,f1,q,go_sem]
   ·have nx:=any_take_no (p:=fun x=>x == s) f2 hc q
    simp +contextual (maxSteps:=10000000) only [r0,r3,r4,d1,f1,q,wrap_su j (by omega),go_sem]
    exact ⟨by omega,nx⟩
  ·have d1 : decide (((j : Nat) : Int) < SB.length) = false:=by rw [lS];simp only [decide_eq_false_iff_not];omega
   have hT : isSign s = false:=by
    have : j = signsR.length:=by show j = 18;omega
    subst this;rw [List.take_length] at hc
    exact hc
   rw [hT]
   simp +contextual (maxSteps:=10000000) only [r0,r3,r4,d1,go_sem]
 ·cases h
def wordB (s : List UInt8) : Bool:=match s with
 | []=>false
 | c :: r=>pLet c.toNat && r.all (fun b=>pWord b.toNat) && decide ((s.length : Int) <= 64)
def okAtW (j : Nat) (b : UInt8) : Bool:=if j = 0 then pLet b.toNat else pWord b.toNat
theorem wordB_no {s : List UInt8} {j : Nat} {b : UInt8} (h : s[j]? = some b) (hb : okAtW j b = false) : wordB s = false:=by
 cases s with
 | nil=>rfl
 | cons c r =>
  cases j with
  | zero =>
   simp at h;subst h
   have hb : pLet (c.toNat : Int) = false:=hb
   simp [wordB,hb]
  | succ j =>
   have h : r[j]? = some b:=by simpa using h
   have hb : pWord (b.toNat : Int) = false:=hb
   have : r.all (fun b=>pWord b.toNat) = false:=List.all_eq_false.2 ⟨b,List.mem_of_getElem? h,by simp [hb]⟩
   simp [wordB,this]
theorem wordB_end {s : List UInt8} (h : ∀ j b,s[j]? = some b -> okAtW j b = true) : wordB s = (decide ((0 : Int) < s.length) && decide ((s.length : Int) <= 64)):=by
 cases s with
 | nil=>rfl
 | cons c r =>
  have h0 : pLet (c.toNat : Int) = true:=h 0 c rfl
  have h1 : r.all (fun b=>pWord b.toNat) = true:=List.all_eq_true.2 fun b hb=>by
   obtain ⟨j,hj⟩:=List.getElem?_of_mem hb
   exact h (j + 1) b (by simpa using hj)
  have : decide ((0 : Int) < ((c :: r).length : Nat)) = true:=by simp
  rw [this];simp only [wordB,h0,h1,Bool.true_and]
def φword : List D -> Option D
 | [.str s]=>if s.length <= 2 ^ 60 then some (.bool (wordB s)) else none
 | _=>none
set_option maxHeartbeats 4000000 in
theorem ok109 : OkAt Tryz.prog 109 φword:=by
 refine ok_of (l:=[(162,φb pLet),(163,φb pDigit)]) (.cons ok162 (.cons ok163 .nil)) fn109 fun args r h=>?_
 unfold φword at h
 split at h
 ·rename_i s
  split at h
  ·rename_i hl
   injection h with h;subst h
   refine ⟨by simp,by simp [D.cl],fun H T=>?_⟩
   simp +contextual (maxSteps:=10000000) only [c109,go_sem]
   refine W_for (fun i s'=>s'.t 0 = .str s /\ s'.t 3 = .int .i64 (i : Nat) /\ s'.H = H /\ s'.T = T /\ i <= s.length /\ ∀ j b,j < i -> s[j]? = some b -> okAtW j b = true) s.length ⟨0,by simp [upd,argT]⟩ (fun i s h=>h.2.2.2.2.1) ?_ (XL_mono _)
   rintro i ⟨t,B,T'⟩ ⟨r0,r3,rfl,rfl,hi,hc⟩
   simp only at r0 r3
   by_cases hlt : i < s.length
   ·have d1 : decide (((i : Nat) : Int) < s.length) = true:=by simp only [decide_eq_true_eq];omega
    have ex : s[i]? = some s[i]:=by simp [hlt]
    obtain ⟨b,hb⟩ : ∃ b,s[i] = b:=⟨_,rfl⟩
    rw [hb] at ex
    have ix:=fun q=>ixs_at ex q
    have no:=fun hp=>wordB_no ex hp
    have nx : okAtW i b = true -> ∀ j b,j < i + 1 -> s[j]? = some b -> okAtW j b = true:=fun hp j c hj hc'=>by
     rcases Nat.lt_or_ge j i with h' | h'
     ·exact hc j c h' hc'
     ·have : j = i:=by omega
      subst this;rw [ex] at hc';injection hc' with hc';subst hc';exact hp
    have q1 : φb pLet [.int .u8 (b.toNat : Int)] = some (.bool (pLet b.toNat)):=rfl
    have q2 : φb pDigit [.int .u8 (b.toNat : Int)] = some (.bool (pDigit b.toNat)):=rfl
    rcases tf (pLet (b.toNat : Int)) with g1 | g1
    ·have nx:=nx (by unfold okAtW;split <;> simp [g1,pWord_let])
     simp +contextual (maxSteps:=10000000) only [r0,r3,d1,ix,q1,g1,wrap_su i (by omega),go_sem]
     exact ⟨by omega,nx⟩
    by_cases h0 : i = 0
    ·have e0 : (((i : Nat) : Int) == 0) = true:=by rw [beq_iff_eq];omega
     have no:=no (by unfold okAtW;rw [if_pos h0];exact g1)
     rw [no]
     simp +contextual (maxSteps:=10000000) only [r0,r3,d1,ix,q1,g1,e0,go_sem]
    have e0 : (((i : Nat) : Int) == 0) = false:=by rw [beq_eq_false_iff_ne];omega
    rcases tf (pDigit (b.toNat : Int)) with g2 | g2
    ·have nx:=nx (by unfold okAtW;rw [if_neg h0,pWord_let,g2];simp)
     simp +contextual (maxSteps:=10000000) only [r0,r3,d1,ix,q1,q2,g1,g2,e0,wrap_su i (by omega),go_sem]
     exact ⟨by omega,nx⟩
    rcases tf ((b.toNat : Int) == 95) with g3 | g3
    ·have nx:=nx (by unfold okAtW;rw [if_neg h0,pWord_let,g3];simp)
     have g3' : ((b.toNat : Int) != 95) = false:=by simp only [bne,g3];rfl
     simp +contextual (maxSteps:=10000000) only [r0,r3,d1,ix,q1,q2,g1,g2,g3',e0,wrap_su i (by omega),go_sem]
     exact ⟨by omega,nx⟩
    ·have no:=no (by unfold okAtW;rw [if_neg h0,pWord_let,g1,g2,g3];rfl)
     have g3' : ((b.toNat : Int) != 95) = true:=by simp only [bne,g3];rfl
     rw [no]
     simp +contextual (maxSteps:=10000000) only [r0,r3,d1,ix,q1,q2,g1,g2,g3',e0,go_sem]
   ·have d1 : decide (((i : Nat) : Int) < s.length) = false:=by simp only [decide_eq_false_iff_not];omega
    have hE:=wordB_end (s:=s) fun j b hj=>hc j b (by
     rcases Nat.lt_or_ge j s.length with h' | h'
     ·omega
     ·rw [List.getElem?_eq_none h'] at hj;cases hj) hj
    rw [hE]
    rcases tf (decide ((0 : Int) < s.length)) with g | g <;> simp +contextual (maxSteps:=10000000) only [r0,r3,d1,g,go_sem]
  ·cases h
 ·cases h
def tupR (p : Int × Bool) : D:=.tup [.int .i64 p.1,.bool p.2]
theorem wrapU8 (a : Int) : IntKind.u8.wrap a = a % 2 ^ 8:=by simp [IntKind.wrap,IntKind.bits,IntKind.signed]
end GP
namespace GP
open Go Go.Proofs
set_option maxRecDepth 100000
theorem b2one (t : Option Nat) (c : UInt8) : b2sD (.sl t [.int .u8 (c.toNat : Int)]) = some (.str [c]):=b2s_byteD t [c]
theorem sadd {a b : List UInt8} (h : a.length + b.length < 2 ^ 62) : bin2 .add (.str a) (.str b) = some (.str (a ++ b)):=by
 show strOp .add a b = _
 simp [strOp,h]
end GP
namespace GP
open Go Go.Proofs
set_option maxRecDepth 100000
theorem runL_cons {p : Int -> Bool} (c : UInt8) (r : List UInt8) (h : p c.toNat = true) : runL p (c :: r) = 1 + runL p r:=by
 unfold runL;simp only [List.takeWhile_cons,h,if_true,List.length_cons];omega
end GP
namespace GP
open Go Go.Proofs
set_option maxRecDepth 100000
def signs2 : List (List UInt8):=[[61,61],[33,61],[60,61],[62,61]]
def signs1 : List (List UInt8):=[[123],[125],[40],[41],[91],[93],[59],[46],[44],[43],[45],[42],[60],[62]]
theorem signsB_12 : signsB = signs2 ++ signs1:=rfl
theorem isSign_12 (s : List UInt8) : isSign s = (signs1.contains s || signs2.contains s):=by
 have e : signsR = signs1 ++ signs2:=rfl
 unfold isSign
 rw [e,List.any_append]
 congr 1 <;> (rw [List.contains_eq_any_beq];congr 1;funext x;exact BEq.comm)
end GP
namespace GP
open Go Go.Proofs
set_option maxRecDepth 100000
theorem wordB_cons (c : UInt8) (r : List UInt8) : wordB (c :: r) = (pLet c.toNat && r.all (fun b=>pWord b.toNat) && decide (((c :: r).length : Int) <= 64)):=rfl
end GP
namespace GP
open Go Go.Proofs
set_option maxRecDepth 100000
def zeroV : D:=.agg [.int .i64 0,.int .i64 0,.str [],.nils]
def num (n : Int) : D:=.agg [.int .i64 2,.int .i64 n,.str [],.nils]
def plainB (k i : Int) (s : List UInt8) (n : Nat) : Bool :=
 if decide ((0 : Int) < n) then false else if (k != 3) && (s != []) then false else
 if k == 0 then i == 0 else if k == 1 then i == 0 || i == 1 else if k == 2 then true else
 if k == 3 then i == 0 && decide ((s.length : Int) <= 64) else if k == 4 then decide (0 <= i) && decide (i <= 1099511627776) else false
def φplain : List D -> Option D
 | [.agg [.int .i64 k,.int .i64 i,.str s,l]]=>match lenD l with
  | some n=>some (.bool (plainB k i s n))
  | none=>none
 | _=>none
theorem lenD_okc {l : D} {n : Nat} (h : lenD l = some n) : l.okc = true /\ l.cells = [l]:=by
 cases l <;> simp [lenD] at h <;> exact ⟨rfl,rfl⟩
theorem ok179 [HasG Tryz.prog] : OkAt Tryz.prog 179 φplain:=by
 refine ok_of (l:=[]) Ok.nil fn179 fun args r h=>?_
 unfold φplain at h
 split at h
 ·split at h
  ·rename_i k i s l n hn
   injection h with h;subst h
   refine ⟨by simp,by simp [D.cl,D.clL,num],fun H T=>?_⟩
   have hl:=lenD_okc hn
   simp +contextual (maxSteps:=10000000) only [c179,plainB,hn,hl.1,hl.2,go_sem]
  ·cases h
 ·cases h
theorem wrap_of (a : Int) (h : -(2 ^ 63) <= a) (h' : a < 2 ^ 63) : IntKind.i64.wrap a = a:=by
 have e : IntKind.i64.wrap a = if a % (2 ^ 64 : Int) ≥ (2 ^ 63 : Int) then a % (2 ^ 64 : Int) - (2 ^ 64 : Int) else a % (2 ^ 64 : Int):=by
  simp [IntKind.wrap,IntKind.bits,IntKind.signed]
 rw [e]
 split <;> omega
theorem wrap_nat (n : Nat) (h : n < 2 ^ 62) : IntKind.i64.wrap (n : Int) = n:=wrap_of _ (by omega) (by omega)
theorem wrap_succ (n : Nat) (h : n < 2 ^ 61) : IntKind.i64.wrap ((n : Int) + 1) = ((n + 1 : Nat) : Int):=by
 have:=wrap_nat (n + 1) (by omega)
 rw [<- this];simp
@[go_sem] theorem ixs_nat (s : List UInt8) (k : IntKind) (i : Nat) : ixs (.str s) (.int k (i : Int)) = (s[i]?).map fun b=>.int .u8 (b.toNat : Int):=by
 simp [ixs]
def cmpI (a b : Int) : Int:=if a < b then -1 else if b < a then 1 else 0
def cmpS : List UInt8 -> List UInt8 -> Int
 | [],[]=>0
 | [],_ :: _=>-1
 | _ :: _,[]=>1
 | x :: a,y :: b=>if x.toNat < y.toNat then -1 else if y.toNat < x.toNat then 1 else cmpS a b
def φnumbers : List D -> Option D
 | [.int .i64 a,.int .i64 b]=>some (.int .i64 (cmpI a b))
 | _=>none
theorem ok203 [HasG Tryz.prog] : OkAt Tryz.prog 203 φnumbers:=by
 refine ok_of (l:=[]) Ok.nil fn203 fun args r h=>?_
 unfold φnumbers at h
 split at h
 ·injection h with h;subst h
  refine ⟨by simp,by simp [D.cl],fun H T=>?_⟩
  simp +contextual (maxSteps:=10000000) only [c203,cmpI,go_sem]
  simp
  omega
 ·cases h
def φTexts : List D -> Option D
 | [.str a,.str b]=>if a.length <= 2 ^ 47 /\ b.length <= 2 ^ 47 then some (.int .i64 (cmpS a b)) else none
 | _=>none
theorem ok204 [HasG Tryz.prog] : OkAt Tryz.prog 204 φTexts:=by
 refine ok_of (l:=[]) Ok.nil fn204 fun args r h=>?_
 unfold φTexts at h
 split at h
 ·split at h
  ·rename_i a b hl
   injection h with h;subst h
   refine ⟨by simp,by simp [D.cl],fun H T=>?_⟩
   simp +contextual (maxSteps:=10000000) only [c204,go_sem]
   refine W_for (fun i s=>s.t 0 = .str a /\ s.t 1 = .str b /\ s.t 5 = .int .i64 i /\ s.H = H /\ s.T = T /\ i <= a.length /\ i <= b.length /\ cmpS (a.drop i) (b.drop i) = cmpS a b) a.length ⟨0,by simp [upd,argT]⟩ (fun i s h=>h.2.2.2.2.2.1) ?_ (XL_mono _)
   rintro i ⟨t,H',T'⟩ ⟨h0,h1,h5,rfl,rfl,hi,hj,hc⟩
   simp only at h0 h1 h5
   by_cases ha : i < a.length
   ·by_cases hb : i < b.length
    ·have d1 : decide ((i : Int) < a.length) = true:=by simpa using ha
     have d2 : decide ((i : Int) < b.length) = true:=by simpa using hb
     have e1 : a[i]? = some a[i]:=by simp [ha]
     have e2 : b[i]? = some b[i]:=by simp [hb]
     rw [List.drop_eq_getElem_cons ha,List.drop_eq_getElem_cons hb,cmpS] at hc
     simp +contextual (maxSteps:=10000000) only [h0,h1,h5,d1,d2,e1,e2,wrap_succ i (by omega),go_sem]
     refine ⟨fun h=>?_,fun h=>⟨fun h'=>?_,fun h'=>⟨by omega,by omega,?_⟩⟩⟩ <;> simp only [decide_eq_true_eq,decide_eq_false_iff_not] at h <;> (try simp only [decide_eq_true_eq,decide_eq_false_iff_not] at h')
     ·rw [if_pos (by omega)] at hc;rw [hc]
     ·rw [if_neg (by omega),if_pos (by omega)] at hc;rw [hc]
     ·rw [if_neg (by omega),if_neg (by omega)] at hc;exact hc
    ·have d1 : decide ((i : Int) < a.length) = true:=by simpa using ha
     have d2 : decide ((i : Int) < b.length) = false:=by simpa using hb
     have d3 : decide ((a.length : Int) < b.length) = false:=by simp;omega
     have d4 : decide ((b.length : Int) < a.length) = true:=by simp;omega
     rw [List.drop_eq_getElem_cons ha,List.drop_eq_nil_of_le (by omega : b.length <= i),cmpS] at hc
     simp +contextual (maxSteps:=10000000) only [h0,h1,h5,d1,d2,d3,d4,← hc,go_sem]
   ·have d1 : decide ((i : Int) < a.length) = false:=by simpa using ha
    have d3 : decide ((b.length : Int) < a.length) = false:=by simp;omega
    rw [List.drop_eq_nil_of_le (by omega : a.length <= i)] at hc
    by_cases hb : i < b.length
    ·have d4 : decide ((a.length : Int) < b.length) = true:=by simp;omega
     rw [List.drop_eq_getElem_cons hb,cmpS] at hc
     simp +contextual (maxSteps:=10000000) only [h0,h1,h5,d1,d3,d4,← hc,go_sem]
    ·have d4 : decide ((a.length : Int) < b.length) = false:=by simp;omega
     rw [List.drop_eq_nil_of_le (by omega : b.length <= i),cmpS] at hc
     simp +contextual (maxSteps:=10000000) only [h0,h1,h5,d1,d3,d4,← hc,go_sem]
  ·cases h
 ·cases h
theorem body205 : Tryz.f205.body.isNone = true:=by kernel_rfl
theorem name205 : (Tryz.f205.name == "runtime.NumGoroutine") = false := by kernel_rfl
theorem next205 : Extern.findNext Tryz.f205 = none:=by kernel_rfl
theorem find205 : Extern.find Tryz.f205 = some Extern.BytealgCompare.compare:=by rfl
theorem cmpS_eq : ∀ (a b : List UInt8),Lib.compareBytes a b = cmpS a b
 | [],[]=>rfl
 | [],_ :: _=>rfl
 | _ :: _,[]=>rfl
 | x :: a,y :: b=>by
  simp only [Lib.compareBytes,cmpS,UInt8.lt_iff_toNat_lt,cmpS_eq a b]
def φcmp : List D -> Option D
 | [.str a,.str b]=>some (.int .i64 (cmpS a b))
 | _=>none
theorem ok205 [HasG Tryz.prog] : OkAt Tryz.prog 205 φcmp:=by
 intro args r hr args' he H T Q hQ
 unfold φcmp at hr
 split at hr
 ·rename_i a b
  injection hr with hr;subst hr
  intro c w vs _ hi hT hrep
  have h:=hrep.erase
  rw [he] at h
  match vs,h.len with
  | [v1,v2],_ =>
   have h1 : Rep c (.str a) v1:=h.rep 0 (by simp) (by simp)
   have h2 : Rep c (.str b) v2:=h.rep 1 (by simp) (by simp)
   cases h1;cases h2
   refine .inr ⟨.int .i64 (cmpS a b),w,?_,?_⟩
   ·rw [run_callFunc_extern Tryz.func205 name205 body205 next205 find205]
    have:=Lib.run_compareString (P:=Tryz.prog) ⟨a.toArray⟩ ⟨b.toArray⟩ w
    rw [cmpS_eq] at this
    simp only at this
    rw [this];rfl
   ·exact ⟨_,rfl,_,H,T,c,hQ,.int _ _,hi,Cx.le.refl c,hT,Below.refl _ _⟩
 ·cases hr
theorem ok176 [HasG Tryz.prog] : OkAt Tryz.prog 176 φcmp:=by
 refine ok_of (l:=[(205,φcmp)]) (.cons ok205 .nil) fn176 fun args r h=>?_
 unfold φcmp at h
 split at h
 ·injection h with h;subst h
  refine ⟨by simp,by simp [D.cl],fun H T=>?_⟩
  simp +contextual (maxSteps:=10000000) only [c176,φcmp,go_sem]
 ·cases h
theorem ok115 [HasG Tryz.prog] : OkAt Tryz.prog 115 φcmp:=by
 refine ok_of (l:=[(176,φcmp)]) (.cons ok176 .nil) fn115 fun args r h=>?_
 unfold φcmp at h
 split at h
 ·injection h with h;subst h
  refine ⟨by simp,by simp [D.cl],fun H T=>?_⟩
  simp +contextual (maxSteps:=10000000) only [c115,φcmp,go_sem]
 ·cases h
def φnan : List D -> Option D
 | [.int .i64 _]=>some (.bool false)
 | _=>none
theorem ok174 [HasG Tryz.prog] : OkAt Tryz.prog 174 φnan:=by
 refine ok_of (l:=[]) .nil fn174 fun args r h=>?_
 unfold φnan at h
 split at h
 ·injection h with h;subst h
  refine ⟨by simp,by simp [D.cl],fun H T=>?_⟩
  simp +contextual (maxSteps:=10000000) only [c174,go_sem]
 ·cases h
theorem ok175 [HasG Tryz.prog] : OkAt Tryz.prog 175 φnan:=by
 refine ok_of (l:=[]) .nil fn175 fun args r h=>?_
 unfold φnan at h
 split at h
 ·injection h with h;subst h
  refine ⟨by simp,by simp [D.cl],fun H T=>?_⟩
  simp +contextual (maxSteps:=10000000) only [c175,go_sem]
 ·cases h
theorem ok113 [HasG Tryz.prog] : OkAt Tryz.prog 113 φnumbers:=by
 refine ok_of (l:=[(174,φnan)]) (.cons ok174 .nil) fn113 fun args r h=>?_
 unfold φnumbers at h
 split at h
 ·injection h with h;subst h
  refine ⟨by simp,by simp [D.cl],fun H T=>?_⟩
  simp +contextual (maxSteps:=10000000) only [c113,φnan,cmpI,go_sem]
  simp
  omega
 ·cases h
theorem ok114 [HasG Tryz.prog] : OkAt Tryz.prog 114 φnumbers:=by
 refine ok_of (l:=[(175,φnan)]) (.cons ok175 .nil) fn114 fun args r h=>?_
 unfold φnumbers at h
 split at h
 ·injection h with h;subst h
  refine ⟨by simp,by simp [D.cl],fun H T=>?_⟩
  simp +contextual (maxSteps:=10000000) only [c114,φnan,cmpI,go_sem]
  simp
  omega
 ·cases h
def φone : List D -> Option D
 | [.agg [.int .i64 k,.int .i64 i,.str s,l]]=>match lenD l with
  | some n=>some (.bool (plainB k i s n))
  | none=>none
 | _=>none
theorem ok171 [HasG Tryz.prog] : OkAt Tryz.prog 171 φone:=by
 refine ok_of (l:=[]) Ok.nil fn171 fun args r h=>?_
 unfold φone at h
 split at h
 ·split at h
  ·rename_i k i s l n hn
   injection h with h;subst h
   refine ⟨by simp,by simp [D.cl,D.clL,num],fun H T=>?_⟩
   have hl:=lenD_okc hn
   simp +contextual (maxSteps:=10000000) only [c171,hn,hl.1,hl.2,go_sem]
   repeat' (first | apply And.intro | intro _)
   all_goals grind [plainB]
  ·cases h
 ·cases h
def singleI (k i : Int) (s : List UInt8) (k' i' : Int) (s' : List UInt8) : Int :=
 if k != k' then cmpI k k' else if k == 3 then cmpS s s' else cmpI i i'
def φsingle : List D -> Option D
 | [.agg [.int .i64 k,.int .i64 i,.str s,l],.agg [.int .i64 k',.int .i64 i',.str s',l']]=>if s.length <= 2 ^ 47 /\ s'.length <= 2 ^ 47 /\ (lenD l).isSome /\ (lenD l').isSome then some (.int .i64 (singleI k i s k' i' s')) else none
 | _=>none
theorem ok172 [HasG Tryz.prog] : OkAt Tryz.prog 172 φsingle:=by
 refine ok_of (l:=[(203,φnumbers),(204,φTexts)]) (.cons ok203 (.cons ok204 .nil)) fn172 fun args r h=>?_
 unfold φsingle at h
 split at h
 ·split at h
  ·rename_i hl
   injection h with h;subst h
   refine ⟨by simp,by simp [D.cl,D.clL,num],fun H T=>?_⟩
   obtain ⟨h1,h2,h3,h4⟩:=hl
   obtain ⟨n,hn⟩:=Option.isSome_iff_exists.1 h3
   obtain ⟨n',hn'⟩:=Option.isSome_iff_exists.1 h4
   have hl:=lenD_okc hn
   have hl':=lenD_okc hn'
   simp +contextual (maxSteps:=10000000) only [c172,φnumbers,φTexts,singleI,hn,hl.1,hl.2,hn',hl'.1,hl'.2,h1,h2,go_sem]
  ·cases h
 ·cases h
@[go_sem high] theorem ia_nat (sz : Nat) (b : Bool) (xs : List D) (k : IntKind) (i : Nat) : ia sz (sliceD b xs) (.int k (i : Int)) = iaE sz xs[i]?:=by
 rw [ia_sliceD];simp
@[go_sem high] theorem ia_nat' (sz : Nat) (t : Option Nat) (xs : List D) (k : IntKind) (i : Nat) : ia sz (.sl t xs) (.int k (i : Int)) = iaE sz xs[i]?:=by
 rw [ia_sl];simp
theorem isSl_elim {l : D} (h : isSl l = true) : ∃ b,l = sliceD b (elems l):=by
 unfold isSl at h
 split at h
 ·exact ⟨true,rfl⟩
 ·exact ⟨false,rfl⟩
 ·cases h
@[go_sem] theorem isSl_sliceD (b : Bool) (xs : List D) : isSl (sliceD b xs) = true:=by
 rcases sliceD_cases b xs with ⟨h,_⟩ | h <;> rw [h] <;> rfl
theorem all_take_succ {p : D -> Bool} {xs : List D} {i : Nat} {e : D} (h : xs[i]? = some e) : (xs.take (i + 1)).all p = ((xs.take i).all p && p e):=by
 rw [List.take_add_one,h];simp
theorem all_false_of {p : D -> Bool} {xs : List D} {i m : Nat} {e : D} (h : xs[i]? = some e) (hp : p e = false) (him : i < m) : (xs.take m).all p = false:=by
 cases hq : (xs.take m).all p with
 | false=>rfl
 | true =>
  have hm : e ∈ xs.take m:=by
   refine List.mem_of_getElem? (i:=i) ?_
   rw [List.getElem?_take_of_lt him];exact h
  rw [List.all_eq_true.1 hq e hm] at hp;cases hp
def leafFew (e : D) : Bool:=decide ((vs e).length <= 200) && decide ((vl e).length = 0)
def few1 (d : D) : Bool:=decide ((vs d).length <= 200) && decide ((vl d).length <= 30) && (vl d).all leafFew
def fewB (xs : List D) (n : Int) : Bool:=(xs.take 100).all few1 && decide ((xs.length : Int) <= n)
def φFew : List D -> Option D
 | [l,.int .i64 n]=>if isSl l = true /\ D.isVs (elems l) = true /\ (elems l).length <= 2 ^ 47 then some (.bool (fewB (elems l) n)) else none
 | _=>none
theorem ok111 [HasG Tryz.prog] : OkAt Tryz.prog 111 φFew:=by
 refine ok_of (l:=[]) .nil fn111 fun args r h=>?_
 unfold φFew at h
 split at h
 ·split at h
  ·rename_i l n hl
   injection h with h;subst h
   refine ⟨by simp,by simp [D.cl],fun H T=>?_⟩
   obtain ⟨hl1,hl2,hl3⟩:=hl
   obtain ⟨b,hb⟩:=isSl_elim hl1
   generalize elems l = xs at hb hl2 hl3
   subst hb
   have hV:=isVs_iff.1 hl2
   simp +contextual (maxSteps:=10000000) only [c111,go_sem]
   refine W_for (fun i s=>s.t 0 = sliceD b xs /\ s.t 1 = .int .i64 n /\ s.t 5 = .int .i64 i /\ s.H = H /\ s.T = T /\ i <= 100 /\ i <= xs.length /\ (xs.take i).all few1 = true) 100 ⟨0,by simp [upd,argT]⟩ (fun i s h=>h.2.2.2.2.2.1) ?_ (XL_mono _)
   rintro i ⟨t,H',T'⟩ ⟨h0,h1,h5,rfl,rfl,hi,hj,hc⟩
   simp only at h0 h1 h5
   by_cases ha : i < xs.length /\ i < 100
   ·obtain ⟨ha,hb'⟩:=ha
    have d1 : decide ((i : Int) < xs.length) = true:=by simpa using ha
    have d2 : decide ((i : Int) < 100) = true:=by simp;omega
    obtain ⟨k,i',s,m,l',he,hs1,hs2,hV'⟩:=isV_elim (hV _ (List.getElem_mem ha))
    have e1 : xs[i]? = some (mkV k i' s m l'):=by rw [<- he];simp [ha]
    simp +contextual (maxSteps:=10000000) only [h0,h1,h5,d1,d2,e1,mkV,go_sem]
    have f1 : few1 (mkV k i' s m l') = (decide (s.length <= 200) && decide (l'.length <= 30) && l'.all leafFew):=by simp only [few1,vs_mk,vl_mk]
    have bad : few1 (mkV k i' s m l') = false -> fewB xs n = false:=fun h=>by simp only [fewB,all_false_of e1 h hb',Bool.false_and]
    refine ⟨fun q=>?_,fun q1=>⟨fun q=>?_,fun q2=>?_⟩⟩
    ·rw [bad];rw [f1];simp at q ⊢;omega
    ·rw [bad];rw [f1];simp at q ⊢;omega
    ·refine W_for (fun j s=>s.t 0 = sliceD b xs /\ s.t 1 = .int .i64 n /\ s.t 5 = .int .i64 i /\ s.t 6 = .int .i64 j /\ s.H = H' /\ s.T = T' /\ j <= l'.length /\ (l'.take j).all leafFew = true) l'.length ⟨0,by simp [upd,h0,h1,h5]⟩ (fun i s h=>h.2.2.2.2.2.2.1) ?_ (XL_mono _)
     rintro j ⟨t,H',T'⟩ ⟨h0,h1,h5,h6,rfl,rfl,hj2,hc2⟩
     simp only at h0 h1 h5 h6
     by_cases hb2 : j < l'.length
     ·have d3 : decide ((j : Int) < l'.length) = true:=by simpa using hb2
      obtain ⟨k2,i2,s2,m2,l2,he2,hs21,hs22,hV2⟩:=isV_elim (hV' _ (List.getElem_mem hb2))
      have e2 : l'[j]? = some (mkV k2 i2 s2 m2 l2):=by rw [<- he2];simp [hb2]
      have f2 : leafFew (mkV k2 i2 s2 m2 l2) = (decide (s2.length <= 200) && decide (l2.length = 0)):=by simp only [leafFew,vs_mk,vl_mk]
      have bad2 : leafFew (mkV k2 i2 s2 m2 l2) = false -> fewB xs n = false:=fun h=>bad (by
       have hm : l'.all leafFew = false:=by
        have:=all_false_of e2 h hb2
        rwa [List.take_length] at this
       rw [f1,hm,Bool.and_false])
      simp +contextual (maxSteps:=10000000) only [h0,h1,h5,h6,d3,e1,e2,mkV,wrap_succ j (by omega),go_sem]
      refine ⟨fun q=>?_,fun q1=>⟨fun q=>?_,fun q2=>⟨by omega,?_⟩⟩⟩
      ·rw [bad2];rw [f2];simp at q ⊢;omega
      ·rw [bad2];rw [f2];simp only [decide_eq_true_eq,Bool.and_eq_false_iff,decide_eq_false_iff_not] at q ⊢;omega
      ·rw [all_take_succ e2,hc2,f2];simp only [decide_eq_true_eq,Bool.and_eq_true,decide_eq_false_iff_not,true_and] at q1 q2 ⊢;omega
     ·have d3 : decide ((j : Int) < l'.length) = false:=by simpa using hb2
      have hall : l'.all leafFew = true:=by rwa [List.take_of_length_le (by omega)] at hc2
      have f3 : few1 (mkV k i' s m l') = true:=by rw [f1,hall];simp at q1 q2 ⊢;omega
      have hc3 : (xs.take (i + 1)).all few1 = true:=by rw [all_take_succ e1,hc,f3];rfl
      simp +contextual (maxSteps:=10000000) only [h0,h1,h5,h6,d3,e1,mkV,wrap_succ i (by omega),go_sem]
      exact ⟨by omega,by omega,hc3⟩
   ·have hcf : (xs.take 100).all few1 = true:=by
     by_cases hx : i < xs.length
     ·have : i = 100:=by omega
      rw [<- this];exact hc
     ·rw [List.take_of_length_le (by omega)] at hc
      exact List.all_eq_true.2 fun x hx=>List.all_eq_true.1 hc x (List.mem_of_mem_take hx)
    by_cases hx : i < xs.length
    ·have d1 : decide ((i : Int) < xs.length) = true:=by simpa using hx
     have d2 : decide ((i : Int) < 100) = false:=by simp;omega
     simp +contextual (maxSteps:=10000000) only [h0,h1,h5,d1,d2,fewB,hcf,go_sem]
    ·have d1 : decide ((i : Int) < xs.length) = false:=by simpa using hx
     simp +contextual (maxSteps:=10000000) only [h0,h1,h5,d1,fewB,hcf,go_sem]
  ·cases h
 ·cases h
end GP
