import Derived.Ground.NamesProg
import Derived.Lib.ItoaNum
import Derived.Lib.LaidTab
import Derived.Shelf.Lay
import Derived.Shelf.Strconv.Itoa4
import Derived.Shelf.Strconv.ParseIntPublic10
import Derived.Test.YtainhmbnbgonhaaGreatDoorProg
import Derived.Test.YtainhmbnbgonhaaGreatDoorM4
import Derived.Test.YtainhmbnbgonhaaGreatDoorM5
set_option linter.unusedSimpArgs false
set_option linter.unnecessarySimpa false
namespace GP
open Go Go.Proofs
open Rd O
set_option maxRecDepth 100000
def c20 : C :=
 (.seq (.reg [I1 2 (.box (t 0)),I1 3 (.box (t 1)),I1 4 (.mv KF)])
 (.seq (.seq (.reg [If 6 0 2,Il 7 6,If 8 0 3,Il 9 8,I1 10 (.bin .neq (t 7) (t 9)),Im 11 10,Jf 12 11 false 5 2,Jl 13 11 false 12,Jf 14 11 false 5 3,Jl 15 11 false 14,I3 16 11 (.bin .neq (t 13) (t 15)),I1 17 (.pick (t 11) KT (t 16)),Im 18 17,Jf 19 18 false 6 2,Jl 20 18 false 19,Jf 21 18 false 6 3,Jl 22 18 false 21,I3 23 18 (.bin .neq (t 20) (t 22)),I1 24 (.pick (t 18) KT (t 23)),Im 25 24,I3 26 25 (.load true 8 (t 2)),I3 27 25 (.load true 8 (t 3)),I3 28 25 (.pcall (Kf 51) [(t 26),(t 27)]),I3 29 25 (.un .not (t 28)),I1 30 (.pick (t 25) KT (t 29)),Im 31 30,Jf 32 31 false 7 2,Jl 33 31 false 32,I3 34 31 (.len (t 33)),Jf 35 31 false 7 3,Jl 36 31 false 35,I3 37 31 (.len (t 36)),I3 38 31 (.bin .neq (t 34) (t 37)),I1 39 (.pick (t 31) KT (t 38))])
 (.cond (t 39)
 (.seq (.reg [I1 4 (.mv KF)])
 .ret)
 .skip))
 (.seq (.seq (.reg [I1 5 (.mv (Ki 0))])
 (.block 0
 (.loop
 (.seq (.seq (.reg [Im 40 5,If 41 7 2,Il 42 41,Iz 43 42,I1 44 (.bin .lss (t 40) (t 43))])
 (.cond (t 44)
 .skip
 (.exit 0)))
 (.seq (.block 1
 (.seq (.draw 0 [(If 47 7 2,[]),(Il 48 47,[]),(Im 49 5,[]),(I1 50 (.iaddr 8 (t 48) (t 49)),[]),(Ia 51 8 50,[]),(If 52 7 3,[]),(Il 53 52,[]),(Im 54 5,[]),(I1 55 (.iaddr 8 (t 53) (t 54)),[]),(Ia 56 8 55,[]),(Ip 57 20 [(t 51),(t 56)],[]),(I1 58 (.un .not (t 57)),[])])
 (.cond (t 58)
 (.seq (.reg [I1 4 (.mv KF)])
 .ret)
 .skip)))
 (.reg [Im 45 5,I1 46 (.bin .add (t 45) (Ki 1)),Im 5 46]))))))
 (.seq (.reg [I1 4 (.mv KT)])
 .ret))))
theorem fn20 : Fn Tryz.prog 20 59 [.inl 4] c20:=⟨⟨_,_,Tryz.func20,rfl,by kernel_rfl,Tryz.ntmps20,by kernel_rfl,Hq0,by kernel_rfl⟩⟩
def c34 : C :=
 (.seq (.reg [I1 1 (.box (t 0)),I1 2 (.mv KN)])
 (.seq (.seq (.reg [Ia 3 8 1,Ip 4 35 [(t 3)],I1 5 (.un .not (t 4))])
 (.cond (t 5)
 (.seq (.reg [I1 2 (.mv KN)])
 .ret)
 .skip))
 (.seq (.reg [Ia 6 8 1,Ip 7 75 [(t 6)],Im 2 7])
 .ret)))
theorem fn34 : Fn Tryz.prog 34 8 [.inl 2] c34:=⟨⟨_,_,Tryz.func34,rfl,by kernel_rfl,Tryz.ntmps34,by kernel_rfl,Hq0,by kernel_rfl⟩⟩
def c37 : C :=
 (.seq (.reg [I1 1 (.box (t 0)),I1 2 (.mv (Ks ([]))),I1 3 (.mv (Ki 0))])
 (.seq (.seq (.reg [Ia 12 3 1,Ip 13 81 [(t 12)],I1 14 (.un .not (t 13))])
 (.cond (t 14)
 (.seq (.reg [I1 2 (.mv (Ks ([]))),I1 3 (.mv (Ki 2))])
 .ret)
 .skip))
 (.seq (.reg [I1 4 (.alloc [.nils,(.int .i64 0)])])
 (.seq (.seq (.reg [If 15 0 1,Il 16 15,Iz 17 16,I1 18 (.mv (Ki 0))])
 (.block 0
 (.loop
 (.seq (.reg [I1 19 (.bin .lss (t 18) (t 17))])
 (.seq (.cond (t 19)
 .skip
 (.exit 0))
 (.seq (.block 1
 (.seq (.reg [I1 20 (.iaddr 4 (t 16) (t 18)),Ia 21 4 20,I1 6 (.alloc [(.str []),(.str []),(.int .i64 0),(.bool false)]),Is 4 6 21])
 (.reg [Ia 22 4 6,Ip 23 83 [(t 22)],Ic 24 82 [(t 4),(Ks ([])),(t 23)]])))
 (.reg [I1 25 (.bin .add (t 18) (Ki 1)),Im 18 25])))))))
 (.seq (.reg [If 26 1 1,Il 27 26,I1 28 (.bsl 1 [(Ks ([117,115,101])),(t 27),(Ks ([59]))]),Ip 29 84 [(t 28)],Ic 30 82 [(t 4),(Ks ([])),(t 29)]])
 (.seq (.seq (.reg [If 31 2 1,Il 32 31,Iz 33 32,I1 34 (.mv (Ki 0))])
 (.block 2
 (.loop
 (.seq (.reg [I1 35 (.bin .lss (t 34) (t 33))])
 (.seq (.cond (t 35)
 .skip
 (.exit 2))
 (.seq (.block 3
 (.seq (.reg [I1 36 (.iaddr 13 (t 32) (t 34)),Ia 37 13 36,I1 8 (.alloc [(.str []),(.str []),(.str []),(.bool false),(.str []),(.int .i64 0),(.int .i64 0),(.str []),.nils,(.str []),(.str []),.nils,.nils]),Is 13 8 37])
 (.seq (.reg [If 38 0 8,Il 39 38,If 40 1 8,Il 41 40,If 42 2 8,Il 43 42,I1 44 (.bsl 1 [(Ks ([112,111,108,105,99,121])),(t 39),(Ks ([98,121])),(t 41),(Ks ([117,115,101])),(t 43),(Ks ([123]))]),Ip 45 84 [(t 44)],Ic 46 82 [(t 4),(Ks ([])),(t 45)]])
 (.seq (.seq (.reg [If 47 3 8,Il 48 47])
 (.cond (t 48)
 (.draw 0 [(I1 49 (.bslq 1 [(Ks ([102,111,114]))]),[]),(Ip 50 84 [(t 49)],[]),(If 51 4 8,[]),(Ia 52 8 51,[]),(Ip 53 75 [(t 52)],[]),(I1 54 (.bslq 1 [(Ks ([59]))]),[]),(Ip 55 84 [(t 54)],[]),(I1 56 (.bslq 1 [(t 50),(t 53),(t 55)]),[]),(Ip 57 85 [(t 56)],[]),(Ic 58 82 [(t 4),(Ks ([32,32])),(t 57)],[])])
 .skip))
 (.seq (.seq (.reg [If 59 12 8,Il 60 59,Iz 61 60,I1 62 (.mv (Ki 0))])
 (.block 4
 (.loop
 (.seq (.reg [I1 63 (.bin .lss (t 62) (t 61))])
 (.seq (.cond (t 63)
 .skip
 (.exit 4))
 (.seq (.block 5
 (.seq (.reg [I1 64 (.iaddr 13 (t 60) (t 62)),Ia 65 13 64,I1 10 (.alloc [(.bool false),(.str []),(.bool false),(.str []),(.int .i64 0),(.int .i64 0),(.str []),.nils,(.str []),(.str []),.nils,.nils,.nils]),Is 13 10 65])
 (.reg [Ia 66 13 10,Ip 67 86 [(t 66)],Ic 68 82 [(t 4),(Ks ([32,32])),(t 67)]])))
 (.reg [I1 69 (.bin .add (t 62) (Ki 1)),Im 62 69])))))))
 (.reg [Ip 70 87 [(Ks ([125]))],I1 71 (.bsl 3 [(t 70)]),Ic 72 82 [(t 4),(Ks ([])),(t 71)]]))))))
 (.reg [I1 73 (.bin .add (t 34) (Ki 1)),Im 34 73])))))))
 (.seq (.reg [If 74 0 4,Il 75 74,Ip 76 88 [(t 75),(Ks ([]))],Im 11 76])
 (.seq (.seq (.reg [Im 77 11,I1 78 (.lens (t 77)),I1 79 (.bin .gtr (t 78) (Ki 4096)),Im 80 79,Jf 81 80 false 1 4,Jl 82 80 false 81,I3 83 80 (.bin .gtr (t 82) (Ki 600)),I1 84 (.pick (t 80) KT (t 83))])
 (.cond (t 84)
 (.seq (.reg [I1 2 (.mv (Ks ([]))),I1 3 (.mv (Ki 3))])
 .ret)
 .skip))
 (.seq (.reg [Im 85 11,Im 2 85,I1 3 (.mv (Ki 0))])
 .ret)))))))))
theorem fn37 : Fn Tryz.prog 37 86 [.inl 2,.inl 3] c37:=⟨⟨_,_,Tryz.func37,rfl,by kernel_rfl,Tryz.ntmps37,by kernel_rfl,Hq0,by kernel_rfl⟩⟩
def c46 : C :=
 (.seq (.reg [I1 2 (.mv (Ks ([])))])
 (.seq (.reg [I1 3 (.mv KN)])
 (.seq (.seq (.reg [Im 6 0,Iz 7 6,I1 8 (.mv (Ki 0))])
 (.block 0
 (.loop
 (.seq (.reg [I1 9 (.bin .lss (t 8) (t 7))])
 (.seq (.cond (t 9)
 .skip
 (.exit 0))
 (.seq (.block 1
 (.seq (.reg [I1 10 (.iaddr 3 (t 6) (t 8)),Ia 11 3 10,I1 5 (.alloc [(.int .i64 0),(.str []),(.int .i64 0)]),Is 3 5 11])
 (.reg [Im 12 3,Ia 13 3 5,Ip 14 101 [(t 13)],I1 15 (.bsl 1 [(t 14)]),I1 16 (.app false 1 16 (t 12) (t 15)),Im 3 16])))
 (.reg [I1 17 (.bin .add (t 8) (Ki 1)),Im 8 17])))))))
 (.seq (.reg [Im 18 3,Ip 19 88 [(t 18),(Ks ([32]))],Im 2 19])
 .ret))))
theorem fn46 : Fn Tryz.prog 46 20 [.inl 2] c46:=⟨⟨_,_,Tryz.func46,rfl,by kernel_rfl,Tryz.ntmps46,by kernel_rfl,Hq0,by kernel_rfl⟩⟩
def c57 : C :=
 (.seq (.reg [I1 1 (.box (t 0)),I1 2 (.mv KF)])
 (.seq (.seq (.reg [If 4 0 1,Il 5 4])
 (.block 0
 (.seq (.reg [I1 7 (.bin .eql (t 5) (Ki 1)),Im 6 7])
 (.cond (t 6)
 (.seq (.reg [If 8 1 1,Il 9 8,Ip 10 109 [(t 9)],Im 11 10,Jf 12 11 true 2 1,Jl 13 11 true 12,I2 14 11 (.bin .eql (t 13) (Ki 0)),I1 15 (.pick (t 11) (t 14) KF),Im 2 15])
 .ret)
 (.seq (.reg [I1 17 (.bin .eql (t 5) (Ki 2)),Im 16 17])
 (.cond (t 16)
 (.seq (.reg [If 18 1 1,Il 19 18,I1 20 (.bin .eql (t 19) (Ks ([]))),Im 21 20,Jf 22 21 true 2 1,Jl 23 21 true 22,I2 24 21 (.bin .geq (t 23) (Ki 0)),I1 25 (.pick (t 21) (t 24) KF),Im 2 25])
 .ret)
 (.seq (.reg [I1 27 (.bin .eql (t 5) (Ki 3)),Im 26 27])
 (.cond (t 26)
 (.seq (.seq (.reg [I1 3 (.mv (Ki 0))])
 (.block 1
 (.loop
 (.seq (.seq (.reg [Im 28 3,If 29 1 1,Il 30 29,I1 31 (.lens (t 30)),I1 32 (.bin .lss (t 28) (t 31))])
 (.cond (t 32)
 .skip
 (.exit 1)))
 (.seq (.block 2
 (.seq (.reg [If 35 1 1,Il 36 35,Im 37 3,I1 38 (.idxs (t 36) (t 37)),I1 39 (.bin .lss (t 38) (k (.int .u8 32))),Im 40 39,Jf 41 40 false 1 1,Jl 42 40 false 41,Jm 43 40 false 3,I3 44 40 (.idxs (t 42) (t 43)),I3 45 40 (.bin .gtr (t 44) (k (.int .u8 126))),I1 46 (.pick (t 40) KT (t 45))])
 (.cond (t 46)
 (.seq (.reg [I1 2 (.mv KF)])
 .ret)
 .skip)))
 (.reg [Im 33 3,I1 34 (.bin .add (t 33) (Ki 1)),Im 3 34]))))))
 (.seq (.reg [If 47 1 1,Il 48 47,I1 49 (.lens (t 48)),I1 50 (.bin .leq (t 49) (Ki 64)),Im 51 50,Jf 52 51 true 2 1,Jl 53 51 true 52,I2 54 51 (.bin .eql (t 53) (Ki 0)),I1 55 (.pick (t 51) (t 54) KF),Im 2 55])
 .ret))
 (.seq (.reg [I1 57 (.bin .eql (t 5) (Ki 4)),Im 56 57])
 (.cond (t 56)
 (.seq (.reg [If 58 1 1,Il 59 58,I1 60 (.bin .eql (t 59) (Ks ([]))),Im 61 60,Jf 62 61 true 2 1,Jl 63 61 true 62,I2 64 61 (.bin .geq (t 63) (Ki 0)),I1 65 (.pick (t 61) (t 64) KF),Im 66 65,Jf 67 66 true 2 1,Jl 68 66 true 67,I2 69 66 (.bin .leq (t 68) (Ki 1099511627776)),I1 70 (.pick (t 66) (t 69) KF),Im 2 70])
 .ret)
 (.seq (.reg [I1 72 (.bin .eql (t 5) (Ki 5)),Im 71 72])
 (.cond (t 71)
 (.seq (.reg [If 73 1 1,Il 74 73,Ip 75 110 [(t 74)],Im 76 75,Jf 77 76 true 2 1,Jl 78 76 true 77,I2 79 76 (.bin .eql (t 78) (Ki 0)),I1 80 (.pick (t 76) (t 79) KF),Im 2 80])
 .ret)
 .skip))))))))))))
 (.seq (.reg [I1 2 (.mv KF)])
 .ret)))
theorem fn57 : Fn Tryz.prog 57 81 [.inl 2] c57:=⟨⟨_,_,Tryz.func57,rfl,by kernel_rfl,Tryz.ntmps57,by kernel_rfl,Hq0,by kernel_rfl⟩⟩
def c63 : C :=
 (.seq (.reg [I1 1 (.box (t 0)),I1 2 (.mv KF)])
 (.seq (.seq (.reg [If 4 0 1,Il 5 4,I1 6 (.lens (t 5)),I1 7 (.bin .gtr (t 6) (Ki 200)),Im 8 7,Jf 9 8 false 5 1,Jl 10 8 false 9,I3 11 8 (.lens (t 10)),I3 12 8 (.bin .gtr (t 11) (Ki 200)),I1 13 (.pick (t 8) KT (t 12)),Im 14 13,Jf 15 14 false 6 1,Jl 16 14 false 15,I3 17 14 (.lens (t 16)),I3 18 14 (.bin .gtr (t 17) (Ki 200)),I1 19 (.pick (t 14) KT (t 18)),Im 20 19,Jf 21 20 false 1 1,I3 22 20 (.load true 4 (t 21)),I3 23 20 (.bsl 4 [(t 22)]),I3 24 20 (.pcall (Kf 111) [(t 23),(Ki 1)]),I3 25 20 (.un .not (t 24)),I1 26 (.pick (t 20) KT (t 25))])
 (.cond (t 26)
 (.seq (.reg [I1 2 (.mv KF)])
 .ret)
 .skip))
 (.seq (.seq (.reg [I1 3 (.mv (Ki 0))])
 (.block 0
 (.loop
 (.seq (.seq (.reg [Im 27 3,If 28 7 1,Il 29 28,Iz 30 29,I1 31 (.bin .lss (t 27) (t 30))])
 (.cond (t 31)
 .skip
 (.exit 0)))
 (.seq (.block 1
 (.seq (.reg [If 34 7 1,Il 35 34,Im 36 3,I1 37 (.iaddr 8 (t 35) (t 36)),Ia 38 8 37,Ip 39 63 [(t 38)],I1 40 (.un .not (t 39))])
 (.cond (t 40)
 (.seq (.reg [I1 2 (.mv KF)])
 .ret)
 .skip)))
 (.reg [Im 32 3,I1 33 (.bin .add (t 32) (Ki 1)),Im 3 33]))))))
 (.seq (.reg [I1 2 (.mv KT)])
 .ret))))
theorem fn63 : Fn Tryz.prog 63 41 [.inl 2] c63:=⟨⟨_,_,Tryz.func63,rfl,by kernel_rfl,Tryz.ntmps63,by kernel_rfl,Hq0,by kernel_rfl⟩⟩
def c101 : C :=
 (.seq (.reg [I1 1 (.box (t 0)),I1 2 (.mv (Ks ([])))])
 (.seq (.seq (.reg [Ia 3 3 1,Ip 4 166 [(t 3)],I1 5 (.un .not (t 4))])
 (.cond (t 5)
 (.seq (.reg [I1 2 (.mv (Ks ([])))])
 .ret)
 .skip))
 (.seq (.seq (.reg [If 6 0 1,Il 7 6])
 (.block 0
 (.seq (.reg [I1 9 (.bin .eql (t 7) (Ki 2)),Im 8 9])
 (.cond (t 8)
 (.seq (.reg [If 10 2 1,Il 11 10,Ip 12 167 [(t 11),(Ki 10)],Im 2 12])
 .ret)
 (.seq (.reg [I1 14 (.bin .eql (t 7) (Ki 4)),Im 13 14])
 (.cond (t 13)
 (.seq (.reg [If 15 2 1,Il 16 15,Ip 17 167 [(t 16),(Ki 10)],I1 18 (.bin .add (Ks ([64])) (t 17)),Im 2 18])
 .ret)
 (.seq (.reg [I1 20 (.bin .eql (t 7) (Ki 3)),Im 19 20])
 (.cond (t 19)
 (.seq (.reg [If 21 1 1,Il 22 21,Ip 23 168 [(t 22)],Im 2 23])
 .ret)
 .skip))))))))
 (.seq (.reg [If 24 1 1,Il 25 24,Im 2 25])
 .ret))))
theorem fn101 : Fn Tryz.prog 101 26 [.inl 2] c101:=⟨⟨_,_,Tryz.func101,rfl,by kernel_rfl,Tryz.ntmps101,by kernel_rfl,Hq0,by kernel_rfl⟩⟩
def c102 : C :=
 (.seq (.reg [I1 4 (.mv (Ki 0))])
 (.seq (.seq (.reg [Im 6 0,Iz 7 6,I1 8 (.mv (Ki 0))])
 (.block 0
 (.loop
 (.seq (.reg [I1 9 (.bin .lss (t 8) (t 7))])
 (.seq (.cond (t 9)
 .skip
 (.exit 0))
 (.seq (.block 1
 (.seq (.reg [Im 10 8,Im 5 10])
 (.seq (.reg [Im 11 1,Im 12 0,Im 13 5,I1 14 (.iaddr 1 (t 12) (t 13)),Il 15 14,I1 16 (.bin .eql (t 11) (t 15))])
 (.cond (t 16)
 (.seq (.reg [Im 17 5,Im 4 17])
 .ret)
 .skip))))
 (.reg [I1 18 (.bin .add (t 8) (Ki 1)),Im 8 18])))))))
 (.seq (.reg [I1 4 (.mv (k (.int .i64 (-1))))])
 .ret)))
theorem fn102 : Fn Tryz.prog 102 19 [.inl 4] c102:=⟨⟨_,_,Tryz.func102,rfl,by kernel_rfl,Tryz.ntmps102,by kernel_rfl,Hq0,by kernel_rfl⟩⟩
def c104 : C :=
 (.seq (.reg [I1 2 (.alloc [(.str []),(.int .i64 0),(.int .i64 0),(.str []),.nils,(.str []),(.str []),.nils])])
 (.seq (.reg [Im 3 0,Im 4 0,I1 5 (.mkfn 170 [(t 4)] []),I1 6 (.bsl 1 [(Ks ([97,110,100]))]),Ic 7 103 [(t 3),(t 5),(t 6)],Is 8 2 7])
 .ret))
theorem fn104 : Fn Tryz.prog 104 8 [.inr (2,true,8)] c104:=⟨⟨_,_,Tryz.func104,rfl,by kernel_rfl,Tryz.ntmps104,by kernel_rfl,Hq0,by kernel_rfl⟩⟩
def c105 : C :=
 (.seq (.reg [Im 6 0,In 7 6,If 8 2 7,Il 9 8,I1 10 (.bin .eql (t 9) (Ki 0))])
 (.cond (t 10)
 (.reg [Im 11 0,Im 12 0,Im 13 1,Im 14 2,In 15 11,If 16 1 15,Is 1 16 13,In 17 12,If 18 2 17,Is 1 18 14])
 .skip))
theorem fn105 : Fn Tryz.prog 105 19 [] c105:=⟨⟨_,_,Tryz.func105,rfl,by kernel_rfl,Tryz.ntmps105,by kernel_rfl,Hq0,by kernel_rfl⟩⟩
def c109 : C :=
 (.seq (.reg [I1 2 (.mv KF)])
 (.seq (.seq (.reg [I1 3 (.mv (Ki 0))])
 (.block 0
 (.loop
 (.seq (.seq (.reg [Im 4 3,Im 5 0,I1 6 (.lens (t 5)),I1 7 (.bin .lss (t 4) (t 6))])
 (.cond (t 7)
 .skip
 (.exit 0)))
 (.seq (.block 1
 (.seq (.reg [Im 10 0,Im 11 3,I1 12 (.idxs (t 10) (t 11)),Ip 13 162 [(t 12)],I1 14 (.un .not (t 13)),Im 15 14,Jm 16 15 true 3,I2 17 15 (.bin .eql (t 16) (Ki 0)),Jm 18 15 true 17,Jm 19 18 false 0,Jm 20 18 false 3,I3 21 18 (.idxs (t 19) (t 20)),I3 22 18 (.pcall (Kf 163) [(t 21)]),I3 23 18 (.un .not (t 22)),Jm 24 18 false 23,Jm 25 24 true 0,Jm 26 24 true 3,I2 27 24 (.idxs (t 25) (t 26)),I2 28 24 (.bin .neq (t 27) (k (.int .u8 95))),I3 29 18 (.pick (t 24) (t 28) KF),I2 30 15 (.pick (t 18) KT (t 29)),I1 31 (.pick (t 15) (t 30) KF)])
 (.cond (t 31)
 (.seq (.reg [I1 2 (.mv KF)])
 .ret)
 .skip)))
 (.reg [Im 8 3,I1 9 (.bin .add (t 8) (Ki 1)),Im 3 9]))))))
 (.seq (.reg [Im 32 0,I1 33 (.lens (t 32)),I1 34 (.bin .gtr (t 33) (Ki 0)),Im 35 34,Jm 36 35 true 0,I2 37 35 (.lens (t 36)),I2 38 35 (.bin .leq (t 37) (Ki 64)),I1 39 (.pick (t 35) (t 38) KF),Im 2 39])
 .ret)))
theorem fn109 : Fn Tryz.prog 109 40 [.inl 2] c109:=⟨⟨_,_,Tryz.func109,rfl,by kernel_rfl,Tryz.ntmps109,by kernel_rfl,Hq0,by kernel_rfl⟩⟩
def c111 : C :=
 (.seq (.reg [I1 4 (.mv KF)])
 (.seq (.seq (.reg [I1 5 (.mv (Ki 0))])
 (.block 0
 (.loop
 (.seq (.seq (.reg [Im 7 5,Im 8 0,Iz 9 8,I1 10 (.bin .lss (t 7) (t 9)),Im 11 10,Jm 12 11 true 5,I2 13 11 (.bin .lss (t 12) (Ki 100)),I1 14 (.pick (t 11) (t 13) KF)])
 (.cond (t 14)
 .skip
 (.exit 0)))
 (.seq (.block 1
 (.seq (.seq (.reg [Im 17 0,Im 18 5,I1 19 (.iaddr 4 (t 17) (t 18)),If 20 2 19,Il 21 20,I1 22 (.lens (t 21)),I1 23 (.bin .gtr (t 22) (Ki 200)),Im 24 23,Jm 25 24 false 0,Jm 26 24 false 5,I3 27 24 (.iaddr 4 (t 25) (t 26)),Jf 28 24 false 3 27,Jl 29 24 false 28,I3 30 24 (.len (t 29)),I3 31 24 (.bin .gtr (t 30) (Ki 30)),I1 32 (.pick (t 24) KT (t 31))])
 (.cond (t 32)
 (.seq (.reg [I1 4 (.mv KF)])
 .ret)
 .skip))
 (.seq (.reg [I1 6 (.mv (Ki 0))])
 (.block 2
 (.loop
 (.seq (.seq (.reg [Im 33 6,Im 34 0,Im 35 5,I1 36 (.iaddr 4 (t 34) (t 35)),If 37 3 36,Il 38 37,Iz 39 38,I1 40 (.bin .lss (t 33) (t 39))])
 (.cond (t 40)
 .skip
 (.exit 2)))
 (.seq (.block 3
 (.seq (.reg [Im 43 0,Im 44 5,I1 45 (.iaddr 4 (t 43) (t 44)),If 46 3 45,Il 47 46,Im 48 6,I1 49 (.iaddr 4 (t 47) (t 48)),If 50 2 49,Il 51 50,I1 52 (.lens (t 51)),I1 53 (.bin .gtr (t 52) (Ki 200)),Im 54 53,Jm 55 54 false 0,Jm 56 54 false 5,I3 57 54 (.iaddr 4 (t 55) (t 56)),Jf 58 54 false 3 57,Jl 59 54 false 58,Jm 60 54 false 6,I3 61 54 (.iaddr 4 (t 59) (t 60)),Jf 62 54 false 3 61,Jl 63 54 false 62,I3 64 54 (.len (t 63)),I3 65 54 (.bin .gtr (t 64) (Ki 0)),I1 66 (.pick (t 54) KT (t 65))])
 (.cond (t 66)
 (.seq (.reg [I1 4 (.mv KF)])
 .ret)
 .skip)))
 (.reg [Im 41 6,I1 42 (.bin .add (t 41) (Ki 1)),Im 6 42]))))))))
 (.reg [Im 15 5,I1 16 (.bin .add (t 15) (Ki 1)),Im 5 16]))))))
 (.seq (.reg [Im 67 0,Iz 68 67,Im 69 1,I1 70 (.bin .leq (t 68) (t 69)),Im 4 70])
 .ret)))
theorem fn111 : Fn Tryz.prog 111 71 [.inl 4] c111:=⟨⟨_,_,Tryz.func111,rfl,by kernel_rfl,Tryz.ntmps111,by kernel_rfl,Hq0,by kernel_rfl⟩⟩
def c112 : C :=
 (.seq (.reg [I1 2 (.mv (Ki 0))])
 (.seq (.reg [I1 3 (.mv (Ki 0))])
 (.seq (.seq (.reg [Im 6 0,Iz 7 6,I1 8 (.mv (Ki 0))])
 (.block 0
 (.loop
 (.seq (.reg [I1 9 (.bin .lss (t 8) (t 7))])
 (.seq (.cond (t 9)
 .skip
 (.exit 0))
 (.seq (.block 1
 (.seq (.reg [I1 10 (.iaddr 1 (t 6) (t 8)),Il 11 10,Im 5 11])
 (.seq (.reg [Im 12 5,Im 13 3,I1 14 (.bin .neq (t 12) (t 13))])
 (.cond (t 14)
 (.seq (.reg [Im 15 5,Im 2 15])
 .ret)
 .skip))))
 (.reg [I1 16 (.bin .add (t 8) (Ki 1)),Im 8 16])))))))
 (.seq (.reg [Im 17 3,Im 2 17])
 .ret))))
theorem fn112 : Fn Tryz.prog 112 18 [.inl 2] c112:=⟨⟨_,_,Tryz.func112,rfl,by kernel_rfl,Tryz.ntmps112,by kernel_rfl,Hq0,by kernel_rfl⟩⟩
def c114 : C :=
 (.seq (.reg [I1 4 (.mv (Ki 0))])
 (.seq (.reg [Im 7 0,Ip 8 175 [(t 7)],Im 5 8])
 (.seq (.reg [Im 9 1,Ip 10 175 [(t 9)],Im 6 10])
 (.seq (.seq (.reg [Im 11 5])
 (.cond (t 11)
 (.seq (.seq (.reg [Im 12 6])
 (.cond (t 12)
 (.seq (.reg [I1 4 (.mv (Ki 0))])
 .ret)
 .skip))
 (.seq (.reg [I1 4 (.mv (k (.int .i64 (-1))))])
 .ret))
 .skip))
 (.seq (.seq (.reg [Im 13 6])
 (.cond (t 13)
 (.seq (.reg [I1 4 (.mv (Ki 1))])
 .ret)
 .skip))
 (.seq (.seq (.reg [Im 14 0,Im 15 1,I1 16 (.bin .lss (t 14) (t 15))])
 (.cond (t 16)
 (.seq (.reg [I1 4 (.mv (k (.int .i64 (-1))))])
 .ret)
 .skip))
 (.seq (.seq (.reg [Im 17 0,Im 18 1,I1 19 (.bin .gtr (t 17) (t 18))])
 (.cond (t 19)
 (.seq (.reg [I1 4 (.mv (Ki 1))])
 .ret)
 .skip))
 (.seq (.reg [I1 4 (.mv (Ki 0))])
 .ret))))))))
theorem fn114 : Fn Tryz.prog 114 20 [.inl 4] c114:=⟨⟨_,_,Tryz.func114,rfl,by kernel_rfl,Tryz.ntmps114,by kernel_rfl,Hq0,by kernel_rfl⟩⟩
def c199 : C :=
 (.seq (.reg [I1 2 (.mv KF)])
 (.seq (.reg [Im 3 0,Ip 4 147 [(t 3)],Im 5 4,Jm 6 5 false 0,I3 7 5 (.pcall (Kf 148) [(t 6)]),I1 8 (.pick (t 5) KT (t 7)),Im 2 8])
 .ret))
theorem fn199 : Fn Tryz.prog 199 9 [.inl 2] c199:=⟨⟨_,_,Tryz.func199,rfl,by kernel_rfl,Tryz.ntmps199,by kernel_rfl,Hq0,by kernel_rfl⟩⟩
end GP
namespace GP
open Go Go.Proofs
open Rd O
set_option maxRecDepth 100000
def c22 : C :=
 (.seq (.reg [I1 1 (.box (t 0)),I1 2 (.mv (Ki 0))])
 (.seq (.reg [I1 3 (.mv (Ki 1))])
 (.seq (.seq (.reg [I1 4 (.mv (Ki 0))])
 (.block 0
 (.loop
 (.seq (.seq (.reg [Im 5 4,If 6 7 1,Il 7 6,Iz 8 7,I1 9 (.bin .lss (t 5) (t 8))])
 (.cond (t 9)
 .skip
 (.exit 0)))
 (.seq (.block 1
 (.reg [Im 12 3,If 13 7 1,Il 14 13,Im 15 4,I1 16 (.iaddr 8 (t 14) (t 15)),Ia 17 8 16,Ip 18 22 [(t 17)],I1 19 (.bin .add (Ki 1) (t 18)),I1 20 (.mx (t 12) (t 19)),Im 3 20]))
 (.reg [Im 10 4,I1 11 (.bin .add (t 10) (Ki 1)),Im 4 11]))))))
 (.seq (.reg [Im 21 3,Im 2 21])
 .ret))))
theorem fn22 : Fn Tryz.prog 22 22 [.inl 2] c22:=⟨⟨_,_,Tryz.func22,rfl,by kernel_rfl,Tryz.ntmps22,by kernel_rfl,Hq0,by kernel_rfl⟩⟩
def c33 : C :=
 (.seq (.reg [I1 0 (.mv KF)])
 (.seq (.reg [I1 4 (.build [.nils,(.str []),.nils] [(1,1,(Ks ([102,105,114,115,116])))]),Ip 5 37 [(t 4)],Im 3 5,Ie 6 0 3,Ie 7 1 3,Im 1 6,Im 2 7])
 (.seq (.reg [Im 8 2,I1 9 (.bin .eql (t 8) (Ki 0)),Im 10 9,Jm 11 10 true 1,I2 12 10 (.bin .eql (t 11) (Ks ([117,115,101,32,102,105,114,115,116,32,59,10]))),I1 13 (.pick (t 10) (t 12) KF),Im 0 13])
 .ret)))
theorem fn33 : Fn Tryz.prog 33 14 [.inl 0] c33:=⟨⟨_,_,Tryz.func33,rfl,by kernel_rfl,Tryz.ntmps33,by kernel_rfl,Hq0,by kernel_rfl⟩⟩
def c35 : C :=
 (.seq (.reg [I1 1 (.box (t 0)),I1 2 (.mv KF)])
 (.seq (.reg [If 6 0 1,Il 7 6,Ip 8 76 [(t 7)],Im 5 8,Ie 9 0 5,Ie 10 1 5,Im 3 9,Im 4 10])
 (.seq (.seq (.reg [Im 11 3,I1 12 (.bin .lss (t 11) (Ki 0)),Im 13 12,Jm 14 13 false 4,I3 15 13 (.len (t 14)),Jf 16 13 false 7 1,Jl 17 13 false 16,I3 18 13 (.len (t 17)),I3 19 13 (.bin .neq (t 15) (t 18)),I1 20 (.pick (t 13) KT (t 19)),Im 21 20,I3 22 21 (.load true 8 (t 1)),I3 23 21 (.pcall (Kf 77) [(t 22)]),I3 24 21 (.un .not (t 23)),I1 25 (.pick (t 21) KT (t 24))])
 (.cond (t 25)
 (.seq (.reg [I1 2 (.mv KF)])
 .ret)
 .skip))
 (.seq (.seq (.reg [If 26 0 1,Il 27 26,I1 28 (.bin .eql (t 27) (Ks ([118,97,108,117,101])))])
 (.cond (t 28)
 (.seq (.reg [If 29 1 1,Ia 30 4 29,Ip 31 78 [(t 30)],Im 2 31])
 .ret)
 .skip))
 (.seq (.reg [If 32 1 1,Ia 33 4 32,I1 34 (.build [(.int .i64 0),(.int .i64 0),(.str []),.nils] []),Ip 35 64 [(t 33),(t 34)],I1 36 (.bin .eql (t 35) (Ki 0)),Im 37 36,Jf 38 37 true 7 1,Jl 39 37 true 38,I2 40 37 (.pcall (Kf 79) [(t 39),(Kf 80)]),I2 41 37 (.un .not (t 40)),I1 42 (.pick (t 37) (t 41) KF),Im 2 42])
 .ret)))))
theorem fn35 : Fn Tryz.prog 35 43 [.inl 2] c35:=⟨⟨_,_,Tryz.func35,rfl,by kernel_rfl,Tryz.ntmps35,by kernel_rfl,Hq0,by kernel_rfl⟩⟩
def c47 : C :=
 (.seq (.reg [I1 4 (.mv KF)])
 (.seq (.reg [Im 5 0,Im 6 1,Ip 7 102 [(t 5),(t 6)],I1 8 (.bin .geq (t 7) (Ki 0)),Im 4 8])
 .ret))
theorem fn47 : Fn Tryz.prog 47 9 [.inl 4] c47:=⟨⟨_,_,Tryz.func47,rfl,by kernel_rfl,Tryz.ntmps47,by kernel_rfl,Hq0,by kernel_rfl⟩⟩
def c52 : C :=
 (.seq (.reg [I1 2 (.mv (Ki 0))])
 (.seq (.reg [Ip 5 106 [],Im 3 5])
 (.seq (.seq (.reg [I1 4 (.mv (Ki 0))])
 (.block 0
 (.loop
 (.seq (.seq (.reg [Im 6 4,Im 7 3,Iz 8 7,I1 9 (.bin .lss (t 6) (t 8))])
 (.cond (t 9)
 .skip
 (.exit 0)))
 (.seq (.block 1
 (.seq (.reg [Im 12 3,Im 13 4,I1 14 (.iaddr 1 (t 12) (t 13)),Il 15 14,Im 16 0,Ip 17 62 [(t 15),(t 16)]])
 (.cond (t 17)
 (.seq (.reg [I1 18 (.build [(.int .i64 0),(.int .i64 0),(.int .i64 0),(.int .i64 0),(.int .i64 0)] [(0,1,(Ki 0)),(1,1,(Ki 1)),(2,1,(Ki 3)),(3,1,(Ki 4)),(4,1,(Ki 5))]),Im 19 4,I1 20 (.idxa false 1 5 (t 18) (t 19)),Im 2 20])
 .ret)
 .skip)))
 (.reg [Im 10 4,I1 11 (.bin .add (t 10) (Ki 1)),Im 4 11]))))))
 (.seq (.seq (.reg [Im 21 0,I1 22 (.bin .eql (t 21) (Ks ([110,111,116])))])
 (.cond (t 22)
 (.seq (.reg [I1 2 (.mv (Ki 2))])
 .ret)
 .skip))
 (.seq (.seq (.reg [Im 23 0,I1 24 (.bin .eql (t 23) (Ks ([110,101,103])))])
 (.cond (t 24)
 (.seq (.reg [I1 2 (.mv (Ki 6))])
 .ret)
 .skip))
 (.seq (.seq (.reg [I1 25 (.bsl 1 [(Ks ([118,97,108,117,101])),(Ks ([110,111,119])),(Ks ([97,116,116,114])),(Ks ([104,97,115])),(Ks ([114,111,108,101])),(Ks ([115,105,122,101]))]),Im 26 0,Ip 27 62 [(t 25),(t 26)]])
 (.cond (t 27)
 (.seq (.reg [I1 2 (.mv (Ki 7))])
 .ret)
 .skip))
 (.seq (.reg [I1 2 (.mv (k (.int .i64 (-1))))])
 .ret)))))))
theorem fn52 : Fn Tryz.prog 52 28 [.inl 2] c52:=⟨⟨_,_,Tryz.func52,rfl,by kernel_rfl,Tryz.ntmps52,by kernel_rfl,Hq0,by kernel_rfl⟩⟩
def c53 : C :=
 (.seq (.reg [I1 1 (.box (t 0)),I1 2 (.mv KF)])
 (.seq (.seq (.reg [Ia 4 4 1,Ip 5 107 [(t 4)],I1 6 (.un .not (t 5))])
 (.cond (t 6)
 (.seq (.reg [I1 2 (.mv KF)])
 .ret)
 .skip))
 (.seq (.seq (.reg [If 7 0 1,Il 8 7,I1 9 (.bin .neq (t 8) (Ki 5))])
 (.cond (t 9)
 (.seq (.reg [Ia 10 4 1,Ip 11 108 [(t 10),KF],Im 2 11])
 .ret)
 .skip))
 (.seq (.seq (.reg [I1 3 (.mv (Ki 0))])
 (.block 0
 (.loop
 (.seq (.seq (.reg [Im 12 3,If 13 3 1,Il 14 13,Iz 15 14,I1 16 (.bin .lss (t 12) (t 15))])
 (.cond (t 16)
 .skip
 (.exit 0)))
 (.seq (.block 1
 (.seq (.reg [If 19 3 1,Il 20 19,Im 21 3,I1 22 (.iaddr 4 (t 20) (t 21)),Ia 23 4 22,Ip 24 108 [(t 23),KT],I1 25 (.un .not (t 24))])
 (.cond (t 25)
 (.seq (.reg [I1 2 (.mv KF)])
 .ret)
 .skip)))
 (.reg [Im 17 3,I1 18 (.bin .add (t 17) (Ki 1)),Im 3 18]))))))
 (.seq (.reg [If 26 3 1,Il 27 26,Iz 28 27,I1 29 (.bin .gtr (t 28) (Ki 0)),Im 2 29])
 .ret)))))
theorem fn53 : Fn Tryz.prog 53 30 [.inl 2] c53:=⟨⟨_,_,Tryz.func53,rfl,by kernel_rfl,Tryz.ntmps53,by kernel_rfl,Hq0,by kernel_rfl⟩⟩
def c55 : C :=
 (.seq (.reg [I1 2 (.mv KF)])
 (.seq (.reg [I1 3 (.bsl 1 [(Ks ([115,117,98,106,101,99,116])),(Ks ([114,101,115,111,117,114,99,101])),(Ks ([97,99,116,105,111,110])),(Ks ([101,110,118]))]),Im 4 0,Ip 5 62 [(t 3),(t 4)],Im 2 5])
 .ret))
theorem fn55 : Fn Tryz.prog 55 6 [.inl 2] c55:=⟨⟨_,_,Tryz.func55,rfl,by kernel_rfl,Tryz.ntmps55,by kernel_rfl,Hq0,by kernel_rfl⟩⟩
def c107 : C :=
 (.seq (.reg [I1 1 (.box (t 0)),I1 2 (.mv KF)])
 (.seq (.seq (.reg [If 4 0 1,Il 5 4,I1 6 (.bin .neq (t 5) (Ki 5))])
 (.cond (t 6)
 (.seq (.reg [Ia 7 4 1,Ip 8 171 [(t 7)],Im 2 8])
 .ret)
 .skip))
 (.seq (.seq (.reg [If 9 1 1,Il 10 9,I1 11 (.bin .neq (t 10) (Ki 0)),Im 12 11,Jf 13 12 false 2 1,Jl 14 12 false 13,I3 15 12 (.bin .neq (t 14) (Ks ([]))),I1 16 (.pick (t 12) KT (t 15)),Im 17 16,Jf 18 17 false 3 1,Jl 19 17 false 18,I3 20 17 (.len (t 19)),I3 21 17 (.bin .gtr (t 20) (Ki 16)),I1 22 (.pick (t 17) KT (t 21))])
 (.cond (t 22)
 (.seq (.reg [I1 2 (.mv KF)])
 .ret)
 .skip))
 (.seq (.seq (.reg [I1 3 (.mv (Ki 0))])
 (.block 0
 (.loop
 (.seq (.seq (.reg [Im 23 3,If 24 3 1,Il 25 24,Iz 26 25,I1 27 (.bin .lss (t 23) (t 26))])
 (.cond (t 27)
 .skip
 (.exit 0)))
 (.seq (.block 1
 (.seq (.draw 0 [(If 30 3 1,[]),(Il 31 30,[]),(Im 32 3,[]),(I1 33 (.iaddr 4 (t 31) (t 32)),[]),(Ia 34 4 33,[]),(Ip 35 171 [(t 34)],[]),(I1 36 (.un .not (t 35)),[]),(Im 37 36,[]),(Jf 38 37 false 3 1,[]),(Jl 39 37 false 38,[]),(Jm 40 37 false 3,[]),(I3 41 37 (.iaddr 4 (t 39) (t 40)),[]),(Jf 42 37 false 0 41,[]),(Jl 43 37 false 42,[]),(I3 44 37 (.bin .eql (t 43) (Ki 0)),[]),(I1 45 (.pick (t 37) KT (t 44)),[]),(Im 46 45,[]),(Jf 47 46 false 3 1,[]),(Jl 48 46 false 47,[]),(Jm 49 46 false 3,[]),(I3 50 46 (.iaddr 4 (t 48) (t 49)),[]),(Jf 51 46 false 0 50,[]),(Jl 52 46 false 51,[]),(Jf 53 46 false 3 1,[]),(Jl 54 46 false 53,[]),(I3 55 46 (.iaddr 4 (t 54) (Ki 0)),[]),(Jf 56 46 false 0 55,[]),(Jl 57 46 false 56,[]),(I3 58 46 (.bin .neq (t 52) (t 57)),[]),(I1 59 (.pick (t 46) KT (t 58)),[]),(Im 60 59,[]),(Jm 61 60 false 3,[]),(I3 62 60 (.bin .gtr (t 61) (Ki 0)),[]),(Jm 63 60 false 62,[]),(Jf 64 63 true 3 1,[]),(Jl 65 63 true 64,[]),(Jm 66 63 true 3,[]),(I2 67 63 (.bin .sub (t 66) (Ki 1)),[]),(I2 68 63 (.iaddr 4 (t 65) (t 67)),[]),(I2 69 63 (.load true 4 (t 68)),[]),(Jf 70 63 true 3 1,[]),(Jl 71 63 true 70,[]),(Jm 72 63 true 3,[]),(I2 73 63 (.iaddr 4 (t 71) (t 72)),[]),(I2 74 63 (.load true 4 (t 73)),[]),(I2 75 63 (.pcall (Kf 172) [(t 69),(t 74)]),[]),(I2 76 63 (.bin .geq (t 75) (Ki 0)),[]),(I3 77 60 (.pick (t 63) (t 76) KF),[]),(I1 78 (.pick (t 60) KT (t 77)),[])])
 (.cond (t 78)
 (.seq (.reg [I1 2 (.mv KF)])
 .ret)
 .skip)))
 (.reg [Im 28 3,I1 29 (.bin .add (t 28) (Ki 1)),Im 3 29]))))))
 (.seq (.reg [I1 2 (.mv KT)])
 .ret)))))
theorem fn107 : Fn Tryz.prog 107 79 [.inl 2] c107:=⟨⟨_,_,Tryz.func107,rfl,by kernel_rfl,Tryz.ntmps107,by kernel_rfl,Hq0,by kernel_rfl⟩⟩
def c125 : C :=
 (.seq (.reg [I1 1 (.box (t 0)),I1 2 (.mv KN)])
 (.seq (.seq (.reg [If 3 0 1,Il 4 3])
 (.block 0
 (.seq (.reg [I1 6 (.bin .eql (t 4) (Ks ([118,97,108,117,101]))),Im 5 6])
 (.cond (t 5)
 (.seq (.reg [If 7 1 1,Ia 8 4 7,Ip 9 178 [(t 8)],Im 2 9])
 .ret)
 (.seq (.reg [I1 11 (.bin .eql (t 4) (Ks ([110,111,119]))),Im 10 11])
 (.cond (t 10)
 (.seq (.reg [I1 12 (.bsl 1 [(Ks ([110,111,119]))]),Ip 13 84 [(t 12)],Im 2 13])
 .ret)
 (.seq (.reg [I1 15 (.bin .eql (t 4) (Ks ([114,111,108,101]))),Im 14 15])
 (.cond (t 14)
 (.seq (.draw 0 [(I1 16 (.bslq 1 [(Ks ([114,111,108,101]))]),[]),(Ip 17 84 [(t 16)],[]),(If 18 6 1,[]),(Il 19 18,[]),(I1 20 (.build [(.int .i64 0),(.str []),(.int .i64 0)] [(0,1,(Ki 3)),(1,1,(t 19))]),[]),(I1 21 (.bslq 3 [(t 20)]),[]),(Ip 22 124 [(t 21)],[]),(I1 23 (.bslq 1 [(t 17),(t 22)]),[]),(Ip 24 85 [(t 23)],[]),(Im 2 24,[])])
 .ret)
 (.seq (.reg [I1 26 (.bin .eql (t 4) (Ks ([104,97,115]))),Im 25 26])
 (.cond (t 25)
 (.seq (.draw 0 [(I1 27 (.bslq 1 [(Ks ([104,97,115]))]),[]),(Ip 28 84 [(t 27)],[]),(If 29 5 1,[]),(Il 30 29,[]),(If 31 6 1,[]),(Il 32 31,[]),(I1 33 (.bslq 1 [(t 30),(Ks ([46])),(t 32)]),[]),(Ip 34 84 [(t 33)],[]),(Ip 35 124 [(t 34)],[]),(I1 36 (.bslq 1 [(t 28),(t 35)]),[]),(Ip 37 85 [(t 36)],[]),(Im 2 37,[])])
 .ret)
 .skip))))))))))
 (.seq (.reg [If 38 5 1,Il 39 38,If 40 6 1,Il 41 40,I1 42 (.bsl 1 [(t 39),(Ks ([46])),(t 41)]),Ip 43 84 [(t 42)],Im 2 43])
 .ret)))
theorem fn125 : Fn Tryz.prog 125 44 [.inl 2] c125:=⟨⟨_,_,Tryz.func125,rfl,by kernel_rfl,Tryz.ntmps125,by kernel_rfl,Hq0,by kernel_rfl⟩⟩
def c130 : C :=
 (.seq (.reg [I1 2 (.box (t 0)),I1 4 (.mv KF)])
 (.seq (.seq (.reg [If 5 0 2,Il 6 5])
 (.block 0
 (.seq (.reg [I1 8 (.bin .eql (t 6) (Ki 2)),Im 7 8])
 (.cond (t 7)
 (.seq (.reg [If 9 1 2,Il 10 9,Im 11 1,I1 12 (.bin .geq (t 10) (t 11)),Im 4 12])
 .ret)
 (.seq (.reg [I1 14 (.bin .eql (t 6) (Ki 3)),Im 13 14])
 (.cond (t 13)
 (.seq (.reg [If 15 2 2,Il 16 15,Ip 17 128 [(t 16)],Im 4 17])
 .ret)
 .skip))))))
 (.seq (.reg [If 18 0 2,Il 19 18,I1 20 (.bin .eql (t 19) (Ki 1)),Im 21 20,Jf 22 21 false 0 2,Jl 23 21 false 22,I3 24 21 (.bin .eql (t 23) (Ki 4)),I1 25 (.pick (t 21) KT (t 24)),Im 4 25])
 .ret)))
theorem fn130 : Fn Tryz.prog 130 26 [.inl 4] c130:=⟨⟨_,_,Tryz.func130,rfl,by kernel_rfl,Tryz.ntmps130,by kernel_rfl,Hq0,by kernel_rfl⟩⟩
def c144 : C :=
 (.seq (.reg [I1 6 (.mv (Ki 0))])
 (.seq (.reg [Im 8 1,Im 7 8])
 (.seq (.block 0
 (.loop
 (.seq (.seq (.reg [Im 9 7,Im 10 0,I1 11 (.lens (t 10)),I1 12 (.bin .lss (t 9) (t 11)),Im 13 12,Jm 14 13 true 2,Jm 15 13 true 0,Jm 16 13 true 7,I2 17 13 (.idxs (t 15) (t 16)),I2 18 13 (.pcall (t 14) [(t 17)]),I1 19 (.pick (t 13) (t 18) KF)])
 (.cond (t 19)
 .skip
 (.exit 0)))
 (.block 1
 (.reg [Im 20 7,I1 21 (.bin .add (t 20) (Ki 1)),Im 7 21])))))
 (.seq (.reg [Im 22 7,Im 23 1,I1 24 (.bin .sub (t 22) (t 23)),Im 6 24])
 .ret))))
theorem fn144 : Fn Tryz.prog 144 25 [.inl 6] c144:=⟨⟨_,_,Tryz.func144,rfl,by kernel_rfl,Tryz.ntmps144,by kernel_rfl,Hq0,by kernel_rfl⟩⟩
def c151 : C :=
 (.seq (.reg [I1 0 (.mv KN)])
 (.seq (.reg [I1 1 (.bsl 1 [(Ks ([61,61])),(Ks ([33,61])),(Ks ([60,61])),(Ks ([62,61])),(Ks ([123])),(Ks ([125])),(Ks ([40])),(Ks ([41])),(Ks ([91])),(Ks ([93])),(Ks ([59])),(Ks ([46])),(Ks ([44])),(Ks ([43])),(Ks ([45])),(Ks ([42])),(Ks ([60])),(Ks ([62]))]),Im 0 1])
 .ret))
theorem fn151 : Fn Tryz.prog 151 2 [.inl 0] c151:=⟨⟨_,_,Tryz.func151,rfl,by kernel_rfl,Tryz.ntmps151,by kernel_rfl,Hq0,by kernel_rfl⟩⟩
def c236 : C :=
 (.seq (.reg [I1 2 (.alloc [(.str []),(.int .i64 0),(.int .i64 0),(.str []),.nils,(.str []),(.str []),.nils])])
 (.seq (.seq (.reg [Im 3 0,Ic 4 69 [(t 3),(Ks ([45]))]])
 (.cond (t 4)
 (.seq (.reg [Im 5 0,Ic 6 236 [(t 5)],I1 7 (.bsl 8 [(t 6)]),I1 8 (.build [(.str []),(.int .i64 0),(.int .i64 0),(.str []),.nils,(.str []),(.str []),.nils] [(0,1,(Ks ([110,101,103]))),(7,1,(t 7))]),Is 8 2 8])
 .ret)
 .skip))
 (.seq (.reg [Im 9 0,Ic 10 238 [(t 9)],Is 8 2 10])
 .ret)))
theorem fn236 : Fn Tryz.prog 236 11 [.inr (2,true,8)] c236:=⟨⟨_,_,Tryz.func236,rfl,by kernel_rfl,Tryz.ntmps236,by kernel_rfl,Hq0,by kernel_rfl⟩⟩
def c245 : C :=
 (.seq (.reg [I1 2 (.alloc [(.int .i64 0),(.int .i64 0),(.str []),.nils])])
 (.seq (.seq (.reg [Im 5 0,Ic 6 69 [(t 5),(Ks ([45]))]])
 (.cond (t 6)
 (.seq (.reg [Im 7 0,Ic 8 120 [(t 7),(Ki 2)],I1 9 (.field false 2 1 (t 8)),I1 10 (.un .neg (t 9)),Ip 11 242 [(t 10)],Is 4 2 11])
 .ret)
 .skip))
 (.seq (.reg [Im 13 0,Ic 14 239 [(t 13)],Im 12 14,Ie 15 0 12,Ie 16 1 12,I1 3 (.alloc [(.int .i64 0),(.int .i64 0),(.str []),.nils]),Is 4 3 15,Im 4 16])
 (.seq (.seq (.reg [Im 17 4,I1 18 (.un .not (t 17))])
 (.cond (t 18)
 (.reg [Im 19 0,Im 20 0,In 21 20,If 22 1 21,Il 23 22,Ic 24 105 [(t 19),(t 23),(Ki 2)]])
 .skip))
 (.seq (.reg [Ia 25 4 3,Is 4 2 25])
 .ret)))))
theorem fn245 : Fn Tryz.prog 245 26 [.inr (2,true,4)] c245:=⟨⟨_,_,Tryz.func245,rfl,by kernel_rfl,Tryz.ntmps245,by kernel_rfl,Hq0,by kernel_rfl⟩⟩
def c246 : C :=
 (.seq (.reg [I1 2 (.alloc [(.int .i64 0),(.int .i64 0),(.str []),.nils]),I1 3 (.mv (Ki 0))])
 (.seq (.seq (.reg [Im 9 0,Iz 10 9,I1 11 (.mv (Ki 0))])
 (.block 0
 (.loop
 (.seq (.reg [I1 12 (.bin .lss (t 11) (t 10))])
 (.seq (.cond (t 12)
 .skip
 (.exit 0))
 (.seq (.block 1
 (.seq (.reg [I1 13 (.iaddr 4 (t 9) (t 11)),Ia 14 4 13,I1 5 (.alloc [(.int .i64 0),(.int .i64 0),(.str []),.nils]),Is 4 5 14])
 (.seq (.reg [Ia 15 4 5,Ip 16 129 [(t 15)],I1 17 (.un .not (t 16))])
 (.cond (t 17)
 (.seq (.reg [I1 18 (.build [(.int .i64 0),(.int .i64 0),(.str []),.nils] []),Is 4 2 18,I1 3 (.mv (Ki 1))])
 .ret)
 .skip))))
 (.reg [I1 19 (.bin .add (t 11) (Ki 1)),Im 11 19])))))))
 (.seq (.seq (.reg [Im 20 0,Iz 21 20,I1 22 (.mv (Ki 0))])
 (.block 2
 (.loop
 (.seq (.reg [I1 23 (.bin .lss (t 22) (t 21))])
 (.seq (.cond (t 23)
 .skip
 (.exit 2))
 (.seq (.block 3
 (.seq (.reg [I1 24 (.iaddr 4 (t 20) (t 22)),Ia 25 4 24,I1 7 (.alloc [(.int .i64 0),(.int .i64 0),(.str []),.nils]),Is 4 7 25])
 (.seq (.draw 0 [(If 26 0 7,[]),(Il 27 26,[]),(I1 28 (.bin .eql (t 27) (Ki 0)),[]),(Im 29 28,[]),(Jf 30 29 false 0 7,[]),(Jl 31 29 false 30,[]),(I3 32 29 (.bin .eql (t 31) (Ki 5)),[]),(I1 33 (.pick (t 29) KT (t 32)),[]),(Im 34 33,[]),(Jf 35 34 false 0 7,[]),(Jl 36 34 false 35,[]),(Jm 37 34 false 0,[]),(I3 38 34 (.iaddr 4 (t 37) (Ki 0)),[]),(Jf 39 34 false 0 38,[]),(Jl 40 34 false 39,[]),(I3 41 34 (.bin .neq (t 36) (t 40)),[]),(I1 42 (.pick (t 34) KT (t 41)),[])])
 (.cond (t 42)
 (.seq (.reg [I1 43 (.build [(.int .i64 0),(.int .i64 0),(.str []),.nils] []),Is 4 2 43,I1 3 (.mv (Ki 6))])
 .ret)
 .skip))))
 (.reg [I1 44 (.bin .add (t 22) (Ki 1)),Im 22 44])))))))
 (.seq (.reg [Im 45 0,Ic 46 247 [(t 45)],Im 8 46])
 (.seq (.reg [Im 47 8,Ic 48 248 [(t 47),(Kf 64)]])
 (.seq (.reg [Im 49 8,Ic 50 249 [(t 49),(Kf 250)],Im 8 50])
 (.seq (.seq (.reg [Im 51 8,Iz 52 51,I1 53 (.bin .gtr (t 52) (Ki 16))])
 (.cond (t 53)
 (.seq (.reg [I1 54 (.build [(.int .i64 0),(.int .i64 0),(.str []),.nils] []),Is 4 2 54,I1 3 (.mv (Ki 13))])
 .ret)
 .skip))
 (.seq (.reg [Im 55 8,I1 56 (.build [(.int .i64 0),(.int .i64 0),(.str []),.nils] [(0,1,(Ki 5)),(3,1,(t 55))]),Is 4 2 56,I1 3 (.mv (Ki 0))])
 .ret))))))))
theorem fn246 : Fn Tryz.prog 246 57 [.inr (2,true,4),.inl 3] c246:=⟨⟨_,_,Tryz.func246,rfl,by kernel_rfl,Tryz.ntmps246,by kernel_rfl,Hq1,by kernel_rfl⟩⟩
def c248 : C :=
 (.seq (.reg [Im 5 0,Iz 6 5,Im 4 6])
 (.reg [Im 7 0,Im 8 4,Im 9 4,I1 10 (.conv .u64 (t 9)),Ip 11 252 [(t 10)],Im 12 1,Ip 13 251 [(t 7),(Ki 0),(t 8),(t 11),(t 12)]]))
theorem fn248 : Fn Tryz.prog 248 14 [] c248:=⟨⟨_,_,Tryz.func248,rfl,by kernel_rfl,Tryz.ntmps248,by kernel_rfl,Hq0,by kernel_rfl⟩⟩
def c250 : C :=
 (.seq (.reg [I1 2 (.box (t 0)),I1 3 (.box (t 1)),I1 4 (.mv KF)])
 (.seq (.reg [Ia 5 4 2,Ia 6 4 3,Ip 7 64 [(t 5),(t 6)],I1 8 (.bin .eql (t 7) (Ki 0)),Im 4 8])
 .ret))
theorem fn250 : Fn Tryz.prog 250 9 [.inl 4] c250:=⟨⟨_,_,Tryz.func250,rfl,by kernel_rfl,Tryz.ntmps250,by kernel_rfl,Hq0,by kernel_rfl⟩⟩
end GP
namespace GP
open Go Go.Proofs
open Rd O
set_option maxRecDepth 100000
def c17 : C :=
 (.seq (.reg [I1 2 (.mv KF)])
 (.seq (.reg [Ip 3 48 [],Im 4 0,Ip 5 47 [(t 3),(t 4)],Im 2 5])
 .ret))
theorem fn17 : Fn Tryz.prog 17 6 [.inl 2] c17:=⟨⟨_,_,Tryz.func17,rfl,by kernel_rfl,Tryz.ntmps17,by kernel_rfl,Hq0,by kernel_rfl⟩⟩
def c26 : C :=
 (.seq (.reg [I1 1 (.box (t 0)),I1 2 (.mv (Ki 0))])
 (.seq (.reg [I1 3 (.mv (Ki 0))])
 (.seq (.seq (.reg [If 6 7 1,Il 7 6,Iz 8 7,I1 9 (.mv (Ki 0))])
 (.block 0
 (.loop
 (.seq (.reg [I1 10 (.bin .lss (t 9) (t 8))])
 (.seq (.cond (t 10)
 .skip
 (.exit 0))
 (.seq (.block 1
 (.seq (.reg [I1 11 (.iaddr 8 (t 7) (t 9)),Ia 12 8 11,I1 5 (.alloc [(.str []),(.int .i64 0),(.int .i64 0),(.str []),.nils,(.str []),(.str []),.nils]),Is 8 5 12])
 (.reg [Im 13 3,Ia 14 8 5,Ip 15 26 [(t 14)],I1 16 (.mx (t 13) (t 15)),Im 3 16])))
 (.reg [I1 17 (.bin .add (t 9) (Ki 1)),Im 9 17])))))))
 (.seq (.reg [Im 18 3,I1 19 (.bin .add (t 18) (Ki 1)),Im 2 19])
 .ret))))
theorem fn26 : Fn Tryz.prog 26 20 [.inl 2] c26:=⟨⟨_,_,Tryz.func26,rfl,by kernel_rfl,Tryz.ntmps26,by kernel_rfl,Hq0,by kernel_rfl⟩⟩
def c71 : C :=
 (.seq (.reg [Im 4 0,Im 5 1,Ic 6 69 [(t 4),(t 5)],I1 7 (.un .not (t 6))])
 (.cond (t 7)
 (.reg [Im 8 0,Im 9 0,In 10 9,If 11 1 10,Il 12 11,Ic 13 105 [(t 8),(t 12),(Ki 2)]])
 .skip))
theorem fn71 : Fn Tryz.prog 71 14 [] c71:=⟨⟨_,_,Tryz.func71,rfl,by kernel_rfl,Tryz.ntmps71,by kernel_rfl,Hq0,by kernel_rfl⟩⟩
def c82 : C :=
 (.seq (.draw 0 [(Im 6 0,[]),(Im 7 0,[]),(In 8 7,[]),(If 9 0 8,[]),(Il 10 9,[]),(Im 11 1,[]),(Im 12 2,[]),(Ip 13 46 [(t 12)],[]),(I1 14 (.bin .add (t 11) (t 13)),[]),(I1 15 (.bin .add (t 14) (Ks ([10]))),[]),(I1 16 (.bslq 1 [(t 15)]),[]),(I1 17 (.app false 1 16 (t 10) (t 16)),[]),(In 18 6,[]),(If 19 0 18,[]),(Is 1 19 17,[])])
 (.reg [Im 20 0,In 21 20,If 22 1 21,Il 23 22,Im 24 2,Iz 25 24,I1 26 (.bin .add (t 23) (t 25)),In 27 20,If 28 1 27,Is 1 28 26]))
theorem fn82 : Fn Tryz.prog 82 29 [] c82:=⟨⟨_,_,Tryz.func82,rfl,by kernel_rfl,Tryz.ntmps82,by kernel_rfl,Hq0,by kernel_rfl⟩⟩
def c124 : C :=
 (.seq (.reg [I1 2 (.mv KN)])
 (.seq (.reg [I1 3 (.bsl 1 [(Ks ([40]))]),Ip 4 84 [(t 3)],Im 5 0,I1 6 (.bsl 1 [(Ks ([41]))]),Ip 7 84 [(t 6)],I1 8 (.bsl 1 [(t 4),(t 5),(t 7)]),Ip 9 85 [(t 8)],Im 2 9])
 .ret))
theorem fn124 : Fn Tryz.prog 124 10 [.inl 2] c124:=⟨⟨_,_,Tryz.func124,rfl,by kernel_rfl,Tryz.ntmps124,by kernel_rfl,Hq0,by kernel_rfl⟩⟩
def c162 : C :=
 (.seq (.reg [I1 2 (.mv KF)])
 (.seq (.reg [Im 3 0,I1 4 (.bin .geq (t 3) (k (.int .u8 97))),Im 5 4,Jm 6 5 true 0,I2 7 5 (.bin .leq (t 6) (k (.int .u8 122))),I1 8 (.pick (t 5) (t 7) KF),Im 2 8])
 .ret))
theorem fn162 : Fn Tryz.prog 162 9 [.inl 2] c162:=⟨⟨_,_,Tryz.func162,rfl,by kernel_rfl,Tryz.ntmps162,by kernel_rfl,Hq0,by kernel_rfl⟩⟩
def c166 : C :=
 (.seq (.reg [I1 1 (.box (t 0)),I1 2 (.mv KF)])
 (.seq (.seq (.reg [If 3 0 1,Il 4 3])
 (.block 0
 (.seq (.reg [I1 6 (.bin .eql (t 4) (Ki 1)),Im 5 6])
 (.cond (t 5)
 (.seq (.draw 0 [(If 7 2 1,[]),(Il 8 7,[]),(I1 9 (.bin .eql (t 8) (Ki 0)),[]),(Im 10 9,[]),(Jf 11 10 true 1 1,[]),(Jl 12 10 true 11,[]),(I2 13 10 (.lens (t 12)),[]),(I2 14 10 (.bin .geq (t 13) (Ki 1)),[]),(I1 15 (.pick (t 10) (t 14) KF),[]),(Im 16 15,[]),(Jf 17 16 true 1 1,[]),(Jl 18 16 true 17,[]),(I2 19 16 (.lens (t 18)),[]),(I2 20 16 (.bin .leq (t 19) (Ki 64)),[]),(I1 21 (.pick (t 16) (t 20) KF),[]),(Im 22 21,[]),(Jf 23 22 true 1 1,[]),(Jl 24 22 true 23,[]),(I2 25 22 (.idxs (t 24) (Ki 0)),[]),(I2 26 22 (.bin .geq (t 25) (k (.int .u8 97))),[]),(I1 27 (.pick (t 22) (t 26) KF),[]),(Im 28 27,[]),(Jf 29 28 true 1 1,[]),(Jl 30 28 true 29,[]),(I2 31 28 (.idxs (t 30) (Ki 0)),[]),(I2 32 28 (.bin .leq (t 31) (k (.int .u8 122))),[]),(I1 33 (.pick (t 28) (t 32) KF),[]),(Im 34 33,[]),(Jf 35 34 true 1 1,[]),(Jl 36 34 true 35,[]),(I2 37 34 (.pcall (Kf 144) [(t 36),(Ki 0),(Kf 199)]),[]),(Jf 38 34 true 1 1,[]),(Jl 39 34 true 38,[]),(I2 40 34 (.lens (t 39)),[]),(I2 41 34 (.bin .eql (t 37) (t 40)),[]),(I1 42 (.pick (t 34) (t 41) KF),[]),(Im 2 42,[])])
 .ret)
 (.seq (.reg [I1 44 (.bin .eql (t 4) (Ki 2)),Im 43 44])
 (.cond (t 43)
 (.seq (.reg [If 45 1 1,Il 46 45,I1 47 (.bin .eql (t 46) (Ks ([]))),Im 48 47,Jf 49 48 true 2 1,Jl 50 48 true 49,I2 51 48 (.bin .geq (t 50) (Ki 0)),I1 52 (.pick (t 48) (t 51) KF),Im 2 52])
 .ret)
 (.seq (.reg [I1 54 (.bin .eql (t 4) (Ki 4)),Im 53 54])
 (.cond (t 53)
 (.seq (.reg [If 55 1 1,Il 56 55,I1 57 (.bin .eql (t 56) (Ks ([]))),Im 58 57,Jf 59 58 true 2 1,Jl 60 58 true 59,I2 61 58 (.bin .geq (t 60) (Ki 0)),I1 62 (.pick (t 58) (t 61) KF),Im 63 62,Jf 64 63 true 2 1,Jl 65 63 true 64,I2 66 63 (.bin .leq (t 65) (Ki 1099511627776)),I1 67 (.pick (t 63) (t 66) KF),Im 2 67])
 .ret)
 (.seq (.reg [I1 69 (.bin .eql (t 4) (Ki 3)),Im 68 69])
 (.cond (t 68)
 (.seq (.draw 0 [(If 70 2 1,[]),(Il 71 70,[]),(I1 72 (.bin .eql (t 71) (Ki 0)),[]),(Im 73 72,[]),(Jf 74 73 true 1 1,[]),(Jl 75 73 true 74,[]),(I2 76 73 (.lens (t 75)),[]),(I2 77 73 (.bin .leq (t 76) (Ki 64)),[]),(I1 78 (.pick (t 73) (t 77) KF),[]),(Im 79 78,[]),(Jf 80 79 true 1 1,[]),(Jl 81 79 true 80,[]),(I2 82 79 (.pcall (Kf 144) [(t 81),(Ki 0),(Kf 200)]),[]),(Jf 83 79 true 1 1,[]),(Jl 84 79 true 83,[]),(I2 85 79 (.lens (t 84)),[]),(I2 86 79 (.bin .eql (t 82) (t 85)),[]),(I1 87 (.pick (t 79) (t 86) KF),[]),(Im 2 87,[])])
 .ret)
 (.seq (.reg [I1 89 (.bin .eql (t 4) (Ki 5)),Im 88 89])
 (.cond (t 88)
 (.seq (.draw 0 [(If 90 2 1,[]),(Il 91 90,[]),(I1 92 (.bin .eql (t 91) (Ki 0)),[]),(Im 93 92,[]),(I2 94 93 (.pcall (Kf 151) []),[]),(Jf 95 93 true 1 1,[]),(Jl 96 93 true 95,[]),(I2 97 93 (.pcall (Kf 47) [(t 94),(t 96)]),[]),(I1 98 (.pick (t 93) (t 97) KF),[]),(Im 2 98,[])])
 .ret)
 .skip))))))))))))
 (.seq (.reg [I1 2 (.mv KF)])
 .ret)))
theorem fn166 : Fn Tryz.prog 166 99 [.inl 2] c166:=⟨⟨_,_,Tryz.func166,rfl,by kernel_rfl,Tryz.ntmps166,by kernel_rfl,Hq0,by kernel_rfl⟩⟩
def c171 : C :=
 (.seq (.reg [I1 1 (.box (t 0)),I1 2 (.mv KF)])
 (.seq (.seq (.reg [If 3 3 1,Il 4 3,Iz 5 4,I1 6 (.bin .gtr (t 5) (Ki 0)),Im 7 6,Jf 8 7 false 0 1,Jl 9 7 false 8,I3 10 7 (.bin .lss (t 9) (Ki 0)),I1 11 (.pick (t 7) KT (t 10)),Im 12 11,Jf 13 12 false 0 1,Jl 14 12 false 13,I3 15 12 (.bin .gtr (t 14) (Ki 4)),I1 16 (.pick (t 12) KT (t 15))])
 (.cond (t 16)
 (.seq (.reg [I1 2 (.mv KF)])
 .ret)
 .skip))
 (.seq (.seq (.reg [If 17 0 1,Il 18 17,I1 19 (.bin .eql (t 18) (Ki 3))])
 (.cond (t 19)
 (.seq (.reg [If 20 1 1,Il 21 20,I1 22 (.bin .eql (t 21) (Ki 0)),Im 23 22,Jf 24 23 true 2 1,Jl 25 23 true 24,I2 26 23 (.lens (t 25)),I2 27 23 (.bin .leq (t 26) (Ki 64)),I1 28 (.pick (t 23) (t 27) KF),Im 2 28])
 .ret)
 .skip))
 (.seq (.seq (.reg [If 29 2 1,Il 30 29,I1 31 (.bin .neq (t 30) (Ks ([]))),Im 32 31,Jf 33 32 false 0 1,Jl 34 32 false 33,I3 35 32 (.bin .eql (t 34) (Ki 0)),Jm 36 32 false 35,Jf 37 36 true 1 1,Jl 38 36 true 37,I2 39 36 (.bin .neq (t 38) (Ki 0)),I3 40 32 (.pick (t 36) (t 39) KF),I1 41 (.pick (t 32) KT (t 40)),Im 42 41,Jf 43 42 false 0 1,Jl 44 42 false 43,I3 45 42 (.bin .eql (t 44) (Ki 1)),Jm 46 42 false 45,Jf 47 46 true 1 1,Jl 48 46 true 47,I2 49 46 (.bin .neq (t 48) (Ki 0)),I3 50 42 (.pick (t 46) (t 49) KF),Jm 51 42 false 50,Jf 52 51 true 1 1,Jl 53 51 true 52,I2 54 51 (.bin .neq (t 53) (Ki 1)),I3 55 42 (.pick (t 51) (t 54) KF),I1 56 (.pick (t 42) KT (t 55))])
 (.cond (t 56)
 (.seq (.reg [I1 2 (.mv KF)])
 .ret)
 .skip))
 (.seq (.reg [If 57 0 1,Il 58 57,I1 59 (.bin .neq (t 58) (Ki 4)),Im 60 59,Jf 61 60 false 1 1,Jl 62 60 false 61,I3 63 60 (.bin .geq (t 62) (Ki 0)),Jm 64 60 false 63,Jf 65 64 true 1 1,Jl 66 64 true 65,I2 67 64 (.bin .leq (t 66) (Ki 1099511627776)),I3 68 60 (.pick (t 64) (t 67) KF),I1 69 (.pick (t 60) KT (t 68)),Im 2 69])
 .ret)))))
theorem fn171 : Fn Tryz.prog 171 70 [.inl 2] c171:=⟨⟨_,_,Tryz.func171,rfl,by kernel_rfl,Tryz.ntmps171,by kernel_rfl,Hq0,by kernel_rfl⟩⟩
def c242 : C :=
 (.seq (.reg [I1 2 (.alloc [(.int .i64 0),(.int .i64 0),(.str []),.nils])])
 (.seq (.reg [Im 3 0,I1 4 (.build [(.int .i64 0),(.int .i64 0),(.str []),.nils] [(0,1,(Ki 2)),(1,1,(t 3))]),Is 4 2 4])
 .ret))
theorem fn242 : Fn Tryz.prog 242 5 [.inr (2,true,4)] c242:=⟨⟨_,_,Tryz.func242,rfl,by kernel_rfl,Tryz.ntmps242,by kernel_rfl,Hq0,by kernel_rfl⟩⟩
def c253 : C :=
 (.seq (.reg [Im 10 1,I1 11 (.bin .add (t 10) (Ki 1)),Im 8 11])
 (.block 0
 (.loop
 (.seq (.seq (.reg [Im 12 8,Im 13 2,I1 14 (.bin .lss (t 12) (t 13))])
 (.cond (t 14)
 .skip
 (.exit 0)))
 (.seq (.block 1
 (.seq (.reg [Im 17 8,Im 9 17])
 (.block 2
 (.loop
 (.seq (.seq (.draw 0 [(Im 18 9,[]),(Im 19 1,[]),(I1 20 (.bin .gtr (t 18) (t 19)),[]),(Im 21 20,[]),(Jm 22 21 true 3,[]),(Jm 23 21 true 0,[]),(Jm 24 21 true 9,[]),(I2 25 21 (.iaddr 4 (t 23) (t 24)),[]),(I2 26 21 (.load true 4 (t 25)),[]),(Jm 27 21 true 0,[]),(Jm 28 21 true 9,[]),(I2 29 21 (.bin .sub (t 28) (Ki 1)),[]),(I2 30 21 (.iaddr 4 (t 27) (t 29)),[]),(I2 31 21 (.load true 4 (t 30)),[]),(I2 32 21 (.pcall (t 22) [(t 26),(t 31)]),[]),(I2 33 21 (.bin .lss (t 32) (Ki 0)),[]),(I1 34 (.pick (t 21) (t 33) KF),[])])
 (.cond (t 34)
 .skip
 (.exit 2)))
 (.seq (.block 3
 (.draw 0 [(Im 37 0,[]),(Im 38 9,[]),(Im 39 0,[]),(Im 40 9,[]),(I1 41 (.bin .sub (t 40) (Ki 1)),[]),(Im 42 0,[]),(Im 43 9,[]),(I1 44 (.bin .sub (t 43) (Ki 1)),[]),(I1 45 (.iaddr 4 (t 42) (t 44)),[]),(Ia 46 4 45,[]),(Im 47 0,[]),(Im 48 9,[]),(I1 49 (.iaddr 4 (t 47) (t 48)),[]),(Ia 50 4 49,[]),(I1 51 (.iaddr 4 (t 37) (t 38)),[]),(Is 4 51 46,[]),(I1 52 (.iaddr 4 (t 39) (t 41)),[]),(Is 4 52 50,[])]))
 (.reg [Im 35 9,I1 36 (.bin .sub (t 35) (Ki 1)),Im 9 36])))))))
 (.reg [Im 15 8,I1 16 (.bin .add (t 15) (Ki 1)),Im 8 16]))))))
theorem fn253 : Fn Tryz.prog 253 53 [] c253:=⟨⟨_,_,Tryz.func253,rfl,by kernel_rfl,Tryz.ntmps253,by kernel_rfl,Hq0,by kernel_rfl⟩⟩
end GP
namespace GP
open Go Go.Proofs
open Rd O
set_option maxRecDepth 100000
def c48 : C :=
 (.seq (.reg [I1 0 (.mv KN)])
 (.seq (.reg [I1 1 (.bsl 1 [(Ks ([102,97,99,116])),(Ks ([116,114,117,116,104])),(Ks ([110,117,109,98,101,114])),(Ks ([116,101,120,116])),(Ks ([116,105,109,101])),(Ks ([98,97,103])),(Ks ([117,115,101])),(Ks ([112,111,108,105,99,121])),(Ks ([98,121])),(Ks ([102,111,114])),(Ks ([112,101,114,109,105,116])),(Ks ([100,101,110,121])),(Ks ([105,102])),(Ks ([100,117,116,121])),(Ks ([97,100,118,105,99,101])),(Ks ([116,114,117,101])),(Ks ([102,97,108,115,101])),(Ks ([110,111,119])),(Ks ([111,114])),(Ks ([97,110,100])),(Ks ([110,111,116])),(Ks ([105,110])),(Ks ([104,97,115])),(Ks ([114,111,108,101])),(Ks ([115,105,122,101])),(Ks ([115,117,98,106,101,99,116])),(Ks ([114,101,115,111,117,114,99,101])),(Ks ([97,99,116,105,111,110])),(Ks ([101,110,118]))]),Im 0 1])
 .ret))
theorem fn48 : Fn Tryz.prog 48 2 [.inl 0] c48:=⟨⟨_,_,Tryz.func48,rfl,by kernel_rfl,Tryz.ntmps48,by kernel_rfl,Hq0,by kernel_rfl⟩⟩
def c51 : C :=
 (.seq (.reg [I1 2 (.box (t 0)),I1 3 (.box (t 1)),I1 4 (.mv KF)])
 (.seq (.reg [If 5 1 2,Ia 6 4 5,If 7 1 3,Ia 8 4 7,Ip 9 54 [(t 6),(t 8)],Im 4 9])
 .ret))
theorem fn51 : Fn Tryz.prog 51 10 [.inl 4] c51:=⟨⟨_,_,Tryz.func51,rfl,by kernel_rfl,Tryz.ntmps51,by kernel_rfl,Hq0,by kernel_rfl⟩⟩
def c62 : C :=
 (.seq (.reg [I1 4 (.mv KF)])
 (.seq (.seq (.reg [I1 5 (.mv (Ki 0))])
 (.block 0
 (.loop
 (.seq (.seq (.reg [Im 6 5,Im 7 0,Iz 8 7,I1 9 (.bin .lss (t 6) (t 8))])
 (.cond (t 9)
 .skip
 (.exit 0)))
 (.seq (.block 1
 (.seq (.reg [Im 12 0,Im 13 5,I1 14 (.iaddr 1 (t 12) (t 13)),Il 15 14,Im 16 1,I1 17 (.bin .eql (t 15) (t 16))])
 (.cond (t 17)
 (.seq (.reg [I1 4 (.mv KT)])
 .ret)
 .skip)))
 (.reg [Im 10 5,I1 11 (.bin .add (t 10) (Ki 1)),Im 5 11]))))))
 (.seq (.reg [I1 4 (.mv KF)])
 .ret)))
theorem fn62 : Fn Tryz.prog 62 18 [.inl 4] c62:=⟨⟨_,_,Tryz.func62,rfl,by kernel_rfl,Tryz.ntmps62,by kernel_rfl,Hq0,by kernel_rfl⟩⟩
def c64 : C :=
 (.seq (.reg [I1 2 (.box (t 0)),I1 3 (.box (t 1)),I1 4 (.mv (Ki 0))])
 (.seq (.seq (.draw 0 [(If 6 0 2,[]),(Il 7 6,[]),(If 8 0 3,[]),(Il 9 8,[]),(Ip 10 113 [(t 7),(t 9)],[]),(If 11 1 2,[]),(Il 12 11,[]),(If 13 1 3,[]),(Il 14 13,[]),(Ip 15 114 [(t 12),(t 14)],[]),(If 16 2 2,[]),(Il 17 16,[]),(If 18 2 3,[]),(Il 19 18,[]),(Ip 20 115 [(t 17),(t 19)],[]),(I1 21 (.bslq 1 [(t 10),(t 15),(t 20)]),[]),(Ip 22 112 [(t 21)],[]),(Im 5 22,[])])
 (.seq (.reg [Im 23 5,I1 24 (.bin .neq (t 23) (Ki 0))])
 (.cond (t 24)
 (.seq (.reg [Im 25 5,Im 4 25])
 .ret)
 .skip)))
 (.seq (.reg [If 26 3 2,Il 27 26,If 28 3 3,Il 29 28,Ip 30 116 [(t 27),(t 29),(Kf 64)],Im 4 30])
 .ret)))
theorem fn64 : Fn Tryz.prog 64 31 [.inl 4] c64:=⟨⟨_,_,Tryz.func64,rfl,by kernel_rfl,Tryz.ntmps64,by kernel_rfl,Hq0,by kernel_rfl⟩⟩
def c69 : C :=
 (.seq (.reg [I1 4 (.mv KF)])
 (.seq (.seq (.reg [Im 5 0,Im 6 1,Ip 7 117 [(t 5),(t 6)],I1 8 (.un .not (t 7))])
 (.cond (t 8)
 (.seq (.reg [I1 4 (.mv KF)])
 .ret)
 .skip))
 (.seq (.reg [Im 9 0,In 10 9,If 11 1 10,Il 12 11,I1 13 (.bin .add (t 12) (Ki 1)),In 14 9,If 15 1 14,Is 1 15 13])
 (.seq (.reg [I1 4 (.mv KT)])
 .ret))))
theorem fn69 : Fn Tryz.prog 69 16 [.inl 4] c69:=⟨⟨_,_,Tryz.func69,rfl,by kernel_rfl,Tryz.ntmps69,by kernel_rfl,Hq0,by kernel_rfl⟩⟩
def c80 : C :=
 (.seq (.reg [I1 1 (.box (t 0)),I1 2 (.mv KF)])
 (.seq (.reg [Ia 3 8 1,Ip 4 35 [(t 3)],I1 5 (.un .not (t 4)),Im 2 5])
 .ret))
theorem fn80 : Fn Tryz.prog 80 6 [.inl 2] c80:=⟨⟨_,_,Tryz.func80,rfl,by kernel_rfl,Tryz.ntmps80,by kernel_rfl,Hq0,by kernel_rfl⟩⟩
def c81 : C :=
 (.seq (.reg [I1 1 (.box (t 0)),I1 2 (.mv KF)])
 (.seq (.seq (.reg [If 9 0 1,Il 10 9,Iz 11 10,I1 12 (.mv (Ki 0))])
 (.block 0
 (.loop
 (.seq (.reg [I1 13 (.bin .lss (t 12) (t 11))])
 (.seq (.cond (t 13)
 .skip
 (.exit 0))
 (.seq (.block 1
 (.seq (.reg [I1 14 (.iaddr 4 (t 10) (t 12)),Ia 15 4 14,I1 4 (.alloc [(.str []),(.str []),(.int .i64 0),(.bool false)]),Is 4 4 15])
 (.seq (.reg [If 16 0 4,Il 17 16,Ip 18 126 [(t 17)],I1 19 (.un .not (t 18)),Im 20 19,Jf 21 20 false 1 4,Jl 22 20 false 21,I3 23 20 (.pcall (Kf 127) [(t 22)]),I3 24 20 (.un .not (t 23)),I1 25 (.pick (t 20) KT (t 24)),Im 26 25,Jf 27 26 false 2 4,Jl 28 26 false 27,I3 29 26 (.bin .lss (t 28) (Ki 1)),I1 30 (.pick (t 26) KT (t 29)),Im 31 30,Jf 32 31 false 2 4,Jl 33 31 false 32,I3 34 31 (.bin .gtr (t 33) (Ki 4)),I1 35 (.pick (t 31) KT (t 34))])
 (.cond (t 35)
 (.seq (.reg [I1 2 (.mv KF)])
 .ret)
 .skip))))
 (.reg [I1 36 (.bin .add (t 12) (Ki 1)),Im 12 36])))))))
 (.seq (.seq (.reg [If 37 2 1,Il 38 37,Iz 39 38,I1 40 (.mv (Ki 0))])
 (.block 2
 (.loop
 (.seq (.reg [I1 41 (.bin .lss (t 40) (t 39))])
 (.seq (.cond (t 41)
 .skip
 (.exit 2))
 (.seq (.block 3
 (.seq (.reg [I1 42 (.iaddr 13 (t 38) (t 40)),Ia 43 13 42,I1 6 (.alloc [(.str []),(.str []),(.str []),(.bool false),(.str []),(.int .i64 0),(.int .i64 0),(.str []),.nils,(.str []),(.str []),.nils,.nils]),Is 13 6 43])
 (.seq (.seq (.reg [If 44 0 6,Il 45 44,Ip 46 127 [(t 45)],I1 47 (.un .not (t 46)),Im 48 47,Jf 49 48 false 1 6,Jl 50 48 false 49,I3 51 48 (.pcall (Kf 127) [(t 50)]),I3 52 48 (.un .not (t 51)),I1 53 (.pick (t 48) KT (t 52)),Im 54 53,Jf 55 54 false 2 6,Jl 56 54 false 55,I3 57 54 (.pcall (Kf 134) [(t 56)]),I3 58 54 (.un .not (t 57)),I1 59 (.pick (t 54) KT (t 58)),Im 60 59,Jf 61 60 false 3 6,Jl 62 60 false 61,Jf 63 60 false 4 6,I3 64 60 (.load true 8 (t 63)),I3 65 60 (.pcall (Kf 135) [(t 62),(t 64)]),I3 66 60 (.un .not (t 65)),I1 67 (.pick (t 60) KT (t 66))])
 (.cond (t 67)
 (.seq (.reg [I1 2 (.mv KF)])
 .ret)
 .skip))
 (.seq (.reg [If 68 12 6,Il 69 68,Iz 70 69,I1 71 (.mv (Ki 0))])
 (.block 4
 (.loop
 (.seq (.reg [I1 72 (.bin .lss (t 71) (t 70))])
 (.seq (.cond (t 72)
 .skip
 (.exit 4))
 (.seq (.block 5
 (.seq (.reg [I1 73 (.iaddr 13 (t 69) (t 71)),Ia 74 13 73,I1 8 (.alloc [(.bool false),(.str []),(.bool false),(.str []),(.int .i64 0),(.int .i64 0),(.str []),.nils,(.str []),(.str []),.nils,.nils,.nils]),Is 13 8 74])
 (.seq (.reg [Ia 75 13 8,Ip 76 136 [(t 75)],I1 77 (.un .not (t 76))])
 (.cond (t 77)
 (.seq (.reg [I1 2 (.mv KF)])
 .ret)
 .skip))))
 (.reg [I1 78 (.bin .add (t 71) (Ki 1)),Im 71 78]))))))))))
 (.reg [I1 79 (.bin .add (t 40) (Ki 1)),Im 40 79])))))))
 (.seq (.reg [If 80 1 1,Il 81 80,Ip 82 134 [(t 81)],Im 2 82])
 .ret))))
theorem fn81 : Fn Tryz.prog 81 83 [.inl 2] c81:=⟨⟨_,_,Tryz.func81,rfl,by kernel_rfl,Tryz.ntmps81,by kernel_rfl,Hq0,by kernel_rfl⟩⟩
def c103 : C :=
 (.seq (.reg [I1 6 (.alloc [(.str []),(.int .i64 0),(.int .i64 0),(.str []),.nils,(.str []),(.str []),.nils])])
 (.seq (.reg [Im 11 1,I1 12 (.call (t 11) []),I1 7 (.alloc [(.str []),(.int .i64 0),(.int .i64 0),(.str []),.nils,(.str []),(.str []),.nils]),Is 8 7 12])
 (.seq (.block 0
 (.loop
 (.seq (.seq (.reg [Im 13 0,In 14 13,If 15 2 14,Il 16 15,I1 17 (.bin .eql (t 16) (Ki 0))])
 (.cond (t 17)
 .skip
 (.exit 0)))
 (.block 1
 (.seq (.reg [I1 8 (.mv (Ks ([])))])
 (.seq (.seq (.reg [Im 18 2,Iz 19 18,I1 20 (.mv (Ki 0))])
 (.block 2
 (.loop
 (.seq (.reg [I1 21 (.bin .lss (t 20) (t 19))])
 (.seq (.cond (t 21)
 .skip
 (.exit 2))
 (.seq (.block 3
 (.seq (.reg [I1 22 (.iaddr 1 (t 18) (t 20)),Il 23 22,Im 10 23])
 (.seq (.reg [Im 24 8,I1 25 (.bin .eql (t 24) (Ks ([]))),Im 26 25,Jm 27 26 true 0,Jm 28 26 true 10,I2 29 26 (.call (Kf 69) [(t 27),(t 28)]),I1 30 (.pick (t 26) (t 29) KF)])
 (.cond (t 30)
 (.reg [Im 31 10,Im 8 31])
 .skip))))
 (.reg [I1 32 (.bin .add (t 20) (Ki 1)),Im 20 32])))))))
 (.seq (.seq (.reg [Im 33 8,I1 34 (.bin .eql (t 33) (Ks ([])))])
 (.cond (t 34)
 (.exit 0)
 .skip))
 (.draw 0 [(Im 35 8,[]),(Ia 36 8 7,[]),(Im 37 1,[]),(I1 38 (.call (t 37) []),[Ia 36 8 7]),(Ip 39 169 [(t 35),(t 36),(t 38)],[]),(Is 8 7 39,[])]))))))))
 (.seq (.reg [Ia 40 8 7,Is 8 6 40])
 .ret))))
theorem fn103 : Fn Tryz.prog 103 41 [.inr (6,true,8)] c103:=⟨⟨_,_,Tryz.func103,rfl,by kernel_rfl,Tryz.ntmps103,by kernel_rfl,Hq1,by kernel_rfl⟩⟩
def c106 : C :=
 (.seq (.reg [I1 0 (.mv KN)])
 (.seq (.reg [I1 1 (.bsl 1 [(Ks ([111,114]))]),I1 2 (.bsl 1 [(Ks ([97,110,100]))]),I1 3 (.bsl 1 [(Ks ([61,61])),(Ks ([33,61])),(Ks ([60])),(Ks ([60,61])),(Ks ([62])),(Ks ([62,61])),(Ks ([105,110]))]),I1 4 (.bsl 1 [(Ks ([43])),(Ks ([45]))]),I1 5 (.bsl 1 [(Ks ([42]))]),I1 6 (.bsl 1 [(t 1),(t 2),(t 3),(t 4),(t 5)]),Im 0 6])
 .ret))
theorem fn106 : Fn Tryz.prog 106 7 [.inl 0] c106:=⟨⟨_,_,Tryz.func106,rfl,by kernel_rfl,Tryz.ntmps106,by kernel_rfl,Hq0,by kernel_rfl⟩⟩
def c110 : C :=
 (.seq (.reg [I1 2 (.mv KF)])
 (.seq (.reg [Ip 5 173 [],Im 3 5])
 (.seq (.seq (.reg [I1 4 (.mv (Ki 0))])
 (.block 0
 (.loop
 (.seq (.seq (.reg [Im 6 4,Im 7 3,Iz 8 7,I1 9 (.bin .lss (t 6) (t 8))])
 (.cond (t 9)
 .skip
 (.exit 0)))
 (.seq (.block 1
 (.seq (.reg [Im 12 3,Im 13 4,I1 14 (.iaddr 1 (t 12) (t 13)),Il 15 14,Im 16 0,I1 17 (.bin .eql (t 15) (t 16))])
 (.cond (t 17)
 (.seq (.reg [I1 2 (.mv KT)])
 .ret)
 .skip)))
 (.reg [Im 10 4,I1 11 (.bin .add (t 10) (Ki 1)),Im 4 11]))))))
 (.seq (.reg [I1 2 (.mv KF)])
 .ret))))
theorem fn110 : Fn Tryz.prog 110 18 [.inl 2] c110:=⟨⟨_,_,Tryz.func110,rfl,by kernel_rfl,Tryz.ntmps110,by kernel_rfl,Hq0,by kernel_rfl⟩⟩
def c113 : C :=
 (.seq (.reg [I1 4 (.mv (Ki 0))])
 (.seq (.reg [Im 7 0,Ip 8 174 [(t 7)],Im 5 8])
 (.seq (.reg [Im 9 1,Ip 10 174 [(t 9)],Im 6 10])
 (.seq (.seq (.reg [Im 11 5])
 (.cond (t 11)
 (.seq (.seq (.reg [Im 12 6])
 (.cond (t 12)
 (.seq (.reg [I1 4 (.mv (Ki 0))])
 .ret)
 .skip))
 (.seq (.reg [I1 4 (.mv (k (.int .i64 (-1))))])
 .ret))
 .skip))
 (.seq (.seq (.reg [Im 13 6])
 (.cond (t 13)
 (.seq (.reg [I1 4 (.mv (Ki 1))])
 .ret)
 .skip))
 (.seq (.seq (.reg [Im 14 0,Im 15 1,I1 16 (.bin .lss (t 14) (t 15))])
 (.cond (t 16)
 (.seq (.reg [I1 4 (.mv (k (.int .i64 (-1))))])
 .ret)
 .skip))
 (.seq (.seq (.reg [Im 17 0,Im 18 1,I1 19 (.bin .gtr (t 17) (t 18))])
 (.cond (t 19)
 (.seq (.reg [I1 4 (.mv (Ki 1))])
 .ret)
 .skip))
 (.seq (.reg [I1 4 (.mv (Ki 0))])
 .ret))))))))
theorem fn113 : Fn Tryz.prog 113 20 [.inl 4] c113:=⟨⟨_,_,Tryz.func113,rfl,by kernel_rfl,Tryz.ntmps113,by kernel_rfl,Hq0,by kernel_rfl⟩⟩
def c127 : C :=
 (.seq (.reg [I1 2 (.mv KF)])
 (.seq (.reg [Im 3 0,Ip 4 134 [(t 3)],Im 5 4,Jm 6 5 true 0,I2 7 5 (.pcall (Kf 17) [(t 6)]),I2 8 5 (.un .not (t 7)),I1 9 (.pick (t 5) (t 8) KF),Im 2 9])
 .ret))
theorem fn127 : Fn Tryz.prog 127 10 [.inl 2] c127:=⟨⟨_,_,Tryz.func127,rfl,by kernel_rfl,Tryz.ntmps127,by kernel_rfl,Hq0,by kernel_rfl⟩⟩
def c145 : C :=
 (.seq (.reg [I1 2 (.mv KF)])
 (.seq (.reg [Im 3 0,I1 4 (.bin .neq (t 3) (k (.int .u8 10))),Im 2 4])
 .ret))
theorem fn145 : Fn Tryz.prog 145 5 [.inl 2] c145:=⟨⟨_,_,Tryz.func145,rfl,by kernel_rfl,Tryz.ntmps145,by kernel_rfl,Hq0,by kernel_rfl⟩⟩
def c146 : C :=
 (.seq (.reg [I1 2 (.mv KF)])
 (.seq (.reg [Im 3 0,Ip 4 147 [(t 3)],Im 5 4,Jm 6 5 false 0,I3 7 5 (.pcall (Kf 148) [(t 6)]),I1 8 (.pick (t 5) KT (t 7)),Im 2 8])
 .ret))
theorem fn146 : Fn Tryz.prog 146 9 [.inl 2] c146:=⟨⟨_,_,Tryz.func146,rfl,by kernel_rfl,Tryz.ntmps146,by kernel_rfl,Hq0,by kernel_rfl⟩⟩
def c172 : C :=
 (.seq (.reg [I1 2 (.box (t 0)),I1 3 (.box (t 1)),I1 4 (.mv (Ki 0))])
 (.seq (.seq (.reg [If 5 0 2,Il 6 5,If 7 0 3,Il 8 7,I1 9 (.bin .neq (t 6) (t 8))])
 (.cond (t 9)
 (.seq (.reg [If 10 0 2,Il 11 10,If 12 0 3,Il 13 12,Ip 14 203 [(t 11),(t 13)],Im 4 14])
 .ret)
 .skip))
 (.seq (.seq (.reg [If 15 0 2,Il 16 15,I1 17 (.bin .eql (t 16) (Ki 3))])
 (.cond (t 17)
 (.seq (.reg [If 18 2 2,Il 19 18,If 20 2 3,Il 21 20,Ip 22 204 [(t 19),(t 21)],Im 4 22])
 .ret)
 .skip))
 (.seq (.reg [If 23 1 2,Il 24 23,If 25 1 3,Il 26 25,Ip 27 203 [(t 24),(t 26)],Im 4 27])
 .ret))))
theorem fn172 : Fn Tryz.prog 172 28 [.inl 4] c172:=⟨⟨_,_,Tryz.func172,rfl,by kernel_rfl,Tryz.ntmps172,by kernel_rfl,Hq0,by kernel_rfl⟩⟩
def c204 : C :=
 (.seq (.reg [I1 4 (.mv (Ki 0))])
 (.seq (.seq (.reg [I1 5 (.mv (Ki 0))])
 (.block 0
 (.loop
 (.seq (.seq (.reg [Im 6 5,Im 7 0,I1 8 (.lens (t 7)),I1 9 (.bin .lss (t 6) (t 8)),Im 10 9,Jm 11 10 true 5,Jm 12 10 true 1,I2 13 10 (.lens (t 12)),I2 14 10 (.bin .lss (t 11) (t 13)),I1 15 (.pick (t 10) (t 14) KF)])
 (.cond (t 15)
 .skip
 (.exit 0)))
 (.seq (.block 1
 (.seq (.seq (.draw 0 [(Im 18 0,[]),(Im 19 5,[]),(I1 20 (.idxs (t 18) (t 19)),[]),(Im 21 1,[]),(Im 22 5,[]),(I1 23 (.idxs (t 21) (t 22)),[]),(I1 24 (.bin .lss (t 20) (t 23)),[])])
 (.cond (t 24)
 (.seq (.reg [I1 4 (.mv (k (.int .i64 (-1))))])
 .ret)
 .skip))
 (.seq (.draw 0 [(Im 25 0,[]),(Im 26 5,[]),(I1 27 (.idxs (t 25) (t 26)),[]),(Im 28 1,[]),(Im 29 5,[]),(I1 30 (.idxs (t 28) (t 29)),[]),(I1 31 (.bin .gtr (t 27) (t 30)),[])])
 (.cond (t 31)
 (.seq (.reg [I1 4 (.mv (Ki 1))])
 .ret)
 .skip))))
 (.reg [Im 16 5,I1 17 (.bin .add (t 16) (Ki 1)),Im 5 17]))))))
 (.seq (.seq (.reg [Im 32 0,I1 33 (.lens (t 32)),Im 34 1,I1 35 (.lens (t 34)),I1 36 (.bin .lss (t 33) (t 35))])
 (.cond (t 36)
 (.seq (.reg [I1 4 (.mv (k (.int .i64 (-1))))])
 .ret)
 .skip))
 (.seq (.seq (.reg [Im 37 0,I1 38 (.lens (t 37)),Im 39 1,I1 40 (.lens (t 39)),I1 41 (.bin .gtr (t 38) (t 40))])
 (.cond (t 41)
 (.seq (.reg [I1 4 (.mv (Ki 1))])
 .ret)
 .skip))
 (.seq (.reg [I1 4 (.mv (Ki 0))])
 .ret)))))
theorem fn204 : Fn Tryz.prog 204 42 [.inl 4] c204:=⟨⟨_,_,Tryz.func204,rfl,by kernel_rfl,Tryz.ntmps204,by kernel_rfl,Hq0,by kernel_rfl⟩⟩
def c217 : C :=
 (.seq (.reg [I1 2 (.alloc [(.str []),(.int .i64 0),(.int .i64 0),(.str []),.nils,(.str []),(.str []),.nils])])
 (.seq (.reg [Im 3 0,Im 4 0,I1 5 (.mkfn 228 [(t 4)] []),I1 6 (.bsl 1 [(Ks ([43])),(Ks ([45]))]),Ic 7 103 [(t 3),(t 5),(t 6)],Is 8 2 7])
 .ret))
theorem fn217 : Fn Tryz.prog 217 8 [.inr (2,true,8)] c217:=⟨⟨_,_,Tryz.func217,rfl,by kernel_rfl,Tryz.ntmps217,by kernel_rfl,Hq0,by kernel_rfl⟩⟩
def c239 : C :=
 (.seq (.reg [I1 2 (.alloc [(.int .i64 0),(.int .i64 0),(.str []),.nils]),I1 3 (.mv KF)])
 (.seq (.reg [Im 5 0,Ip 6 177 [(t 5)],I1 4 (.alloc [(.int .i64 0),(.str []),(.int .i64 0)]),Is 3 4 6])
 (.seq (.block 0
 (.seq (.reg [If 8 0 4,Il 9 8,I1 10 (.bin .eql (t 9) (Ki 2)),Im 7 10])
 (.cond (t 7)
 (.seq (.reg [Im 11 0,In 12 11,If 13 1 12,Il 14 13,I1 15 (.bin .add (t 14) (Ki 1)),In 16 11,If 17 1 16,Is 1 17 15])
 (.seq (.reg [If 18 2 4,Il 19 18,Ip 20 242 [(t 19)],Is 4 2 20,I1 3 (.mv KT)])
 .ret))
 (.seq (.reg [If 22 0 4,Il 23 22,I1 24 (.bin .eql (t 23) (Ki 3)),Im 21 24])
 (.cond (t 21)
 (.seq (.reg [Im 25 0,In 26 25,If 27 1 26,Il 28 27,I1 29 (.bin .add (t 28) (Ki 1)),In 30 25,If 31 1 30,Is 1 31 29])
 (.seq (.reg [If 32 1 4,Il 33 32,Ip 34 243 [(t 33)],Is 4 2 34,I1 3 (.mv KT)])
 .ret))
 (.seq (.reg [If 36 0 4,Il 37 36,I1 38 (.bin .eql (t 37) (Ki 4)),Im 35 38])
 (.cond (t 35)
 (.seq (.reg [Im 39 0,In 40 39,If 41 1 40,Il 42 41,I1 43 (.bin .add (t 42) (Ki 1)),In 44 39,If 45 1 44,Is 1 45 43])
 (.seq (.reg [If 46 2 4,Il 47 46,I1 48 (.build [(.int .i64 0),(.int .i64 0),(.str []),.nils] [(0,1,(Ki 4)),(1,1,(t 47))]),Is 4 2 48,I1 3 (.mv KT)])
 .ret))
 (.seq (.reg [Im 50 0,Ip 51 117 [(t 50),(Ks ([116,114,117,101]))],Im 52 51,Jm 53 52 false 0,I3 54 52 (.pcall (Kf 117) [(t 53),(Ks ([102,97,108,115,101]))]),I1 55 (.pick (t 52) KT (t 54)),Im 49 55])
 (.cond (t 49)
 (.seq (.reg [Im 56 0,In 57 56,If 58 1 57,Il 59 58,I1 60 (.bin .add (t 59) (Ki 1)),In 61 56,If 62 1 61,Is 1 62 60])
 (.seq (.reg [If 63 1 4,Il 64 63,I1 65 (.bin .eql (t 64) (Ks ([116,114,117,101]))),Ip 66 244 [(t 65)],Is 4 2 66,I1 3 (.mv KT)])
 .ret))
 .skip)))))))))
 (.seq (.reg [I1 67 (.build [(.int .i64 0),(.int .i64 0),(.str []),.nils] []),Is 4 2 67,I1 3 (.mv KF)])
 .ret))))
theorem fn239 : Fn Tryz.prog 239 68 [.inr (2,true,4),.inl 3] c239:=⟨⟨_,_,Tryz.func239,rfl,by kernel_rfl,Tryz.ntmps239,by kernel_rfl,Hq0,by kernel_rfl⟩⟩
def c251 : C :=
 (.seq (.reg [I1 10 (.mv KT)])
 (.seq (.reg [I1 11 (.mv KT)])
 (.block 0
 (.loop
 (.block 1
 (.seq (.reg [Im 21 2,Im 22 1,I1 23 (.bin .sub (t 21) (t 22)),Im 12 23])
 (.seq (.seq (.reg [Im 24 12,I1 25 (.bin .leq (t 24) (Ki 12))])
 (.cond (t 25)
 (.seq (.reg [Im 26 0,Im 27 1,Im 28 2,Im 29 4,Ip 30 253 [(t 26),(t 27),(t 28),(t 29)]])
 .ret)
 .skip))
 (.seq (.seq (.reg [Im 31 3,I1 32 (.bin .eql (t 31) (Ki 0))])
 (.cond (t 32)
 (.seq (.reg [Im 33 0,Im 34 1,Im 35 2,Im 36 4,Ip 37 254 [(t 33),(t 34),(t 35),(t 36)]])
 .ret)
 .skip))
 (.seq (.seq (.reg [Im 38 10,I1 39 (.un .not (t 38))])
 (.cond (t 39)
 (.seq (.reg [Im 40 0,Im 41 1,Im 42 2,Im 43 4,Ip 44 255 [(t 40),(t 41),(t 42),(t 43)]])
 (.reg [Im 45 3,I1 46 (.bin .sub (t 45) (Ki 1)),Im 3 46]))
 .skip))
 (.seq (.reg [Im 48 0,Im 49 1,Im 50 2,Im 51 4,Ip 52 256 [(t 48),(t 49),(t 50),(t 51)],Im 47 52,Ie 53 0 47,Ie 54 1 47,Im 13 53,Im 14 54])
 (.seq (.seq (.reg [Im 55 14,I1 56 (.bin .eql (t 55) (Ki 2))])
 (.cond (t 56)
 (.seq (.reg [Im 57 0,Im 58 1,Im 59 2,Im 60 4,Ip 61 257 [(t 57),(t 58),(t 59),(t 60)]])
 (.seq (.reg [Im 62 2,I1 63 (.bin .sub (t 62) (Ki 1)),Im 64 13,Im 65 1,I1 66 (.bin .sub (t 64) (t 65)),I1 67 (.bin .sub (t 63) (t 66)),Im 13 67])
 (.reg [I1 14 (.mv (Ki 1))])))
 .skip))
 (.seq (.seq (.reg [Im 68 10,Im 69 68,Jm 70 69 true 11,I1 71 (.pick (t 69) (t 70) KF),Im 72 71,Jm 73 72 true 14,I2 74 72 (.bin .eql (t 73) (Ki 1)),I1 75 (.pick (t 72) (t 74) KF)])
 (.cond (t 75)
 (.seq (.reg [Im 76 0,Im 77 1,Im 78 2,Im 79 4,Ip 80 258 [(t 76),(t 77),(t 78),(t 79)]])
 (.cond (t 80)
 .ret
 .skip))
 .skip))
 (.seq (.seq (.draw 0 [(Im 81 1,[]),(I1 82 (.bin .gtr (t 81) (Ki 0)),[]),(Im 83 82,[]),(Jm 84 83 true 4,[]),(Jm 85 83 true 0,[]),(Jm 86 83 true 1,[]),(I2 87 83 (.bin .sub (t 86) (Ki 1)),[]),(I2 88 83 (.iaddr 4 (t 85) (t 87)),[]),(I2 89 83 (.load true 4 (t 88)),[]),(Jm 90 83 true 0,[]),(Jm 91 83 true 13,[]),(I2 92 83 (.iaddr 4 (t 90) (t 91)),[]),(I2 93 83 (.load true 4 (t 92)),[]),(I2 94 83 (.pcall (t 84) [(t 89),(t 93)]),[]),(I2 95 83 (.bin .lss (t 94) (Ki 0)),[]),(I2 96 83 (.un .not (t 95)),[]),(I1 97 (.pick (t 83) (t 96) KF),[])])
 (.cond (t 97)
 (.seq (.reg [Im 98 0,Im 99 1,Im 100 2,Im 101 13,Im 102 4,Ip 103 259 [(t 98),(t 99),(t 100),(t 101),(t 102)],Im 15 103])
 (.seq (.reg [Im 104 15,Im 1 104])
 (.exit 1)))
 .skip))
 (.seq (.reg [Im 106 0,Im 107 1,Im 108 2,Im 109 13,Im 110 4,Ip 111 260 [(t 106),(t 107),(t 108),(t 109),(t 110)],Im 105 111,Ie 112 0 105,Ie 113 1 105,Im 16 112,Im 17 113])
 (.seq (.reg [Im 114 17,Im 11 114])
 (.seq (.reg [Im 115 16,Im 116 1,I1 117 (.bin .sub (t 115) (t 116)),Im 118 2,Im 119 16,I1 120 (.bin .sub (t 118) (t 119)),Im 18 117,Im 19 120])
 (.seq (.reg [Im 121 12,I1 122 (.bin .quo (t 121) (Ki 8)),Im 20 122])
 (.seq (.reg [Im 123 18,Im 124 19,I1 125 (.bin .lss (t 123) (t 124))])
 (.cond (t 125)
 (.seq (.reg [Im 126 18,Im 127 20,I1 128 (.bin .geq (t 126) (t 127)),Im 10 128])
 (.seq (.reg [Im 129 0,Im 130 1,Im 131 16,Im 132 3,Im 133 4,Ip 134 251 [(t 129),(t 130),(t 131),(t 132),(t 133)]])
 (.reg [Im 135 16,I1 136 (.bin .add (t 135) (Ki 1)),Im 1 136])))
 (.seq (.reg [Im 137 19,Im 138 20,I1 139 (.bin .geq (t 137) (t 138)),Im 10 139])
 (.seq (.reg [Im 140 0,Im 141 16,I1 142 (.bin .add (t 141) (Ki 1)),Im 143 2,Im 144 3,Im 145 4,Ip 146 251 [(t 140),(t 142),(t 143),(t 144),(t 145)]])
 (.reg [Im 147 16,Im 2 147]))))))))))))))))))))))
theorem fn251 : Fn Tryz.prog 251 148 [] c251:=⟨⟨_,_,Tryz.func251,rfl,by kernel_rfl,Tryz.ntmps251,by kernel_rfl,Hq0,by kernel_rfl⟩⟩
end GP
namespace GP
open Go Go.Proofs
open Rd O
set_option maxRecDepth 100000
def c19 : C :=
 (.seq (.reg [I1 2 (.alloc [(.str []),(.int .i64 0),(.int .i64 0),(.str []),.nils,(.str []),(.str []),.nils]),I1 3 (.mv (Ki 0)),I1 4 (.mv (Ki 0))])
 (.seq (.seq (.reg [Im 9 0,Iz 10 9,I1 11 (.bin .gtr (t 10) (Ki 600))])
 (.cond (t 11)
 (.seq (.reg [I1 12 (.build [(.str []),(.int .i64 0),(.int .i64 0),(.str []),.nils,(.str []),(.str []),.nils] []),Is 8 2 12,I1 3 (.mv (Ki 0)),I1 4 (.mv (Ki 13))])
 .ret)
 .skip))
 (.seq (.reg [Im 13 0,I1 14 (.build [.nils,(.int .i64 0),(.int .i64 0)] [(0,1,(t 13))]),I1 15 (.box (t 14)),Im 5 15])
 (.seq (.reg [Im 16 5,Ic 17 49 [(t 16)],I1 6 (.alloc [(.str []),(.int .i64 0),(.int .i64 0),(.str []),.nils,(.str []),(.str []),.nils]),Is 8 6 17])
 (.seq (.reg [Im 19 5,Ic 20 50 [(t 19)],Im 18 20,Ie 21 0 18,Ie 22 1 18,Im 7 21,Im 8 22])
 (.seq (.block 0
 (.seq (.reg [Im 24 8,I1 25 (.bin .neq (t 24) (Ki 0)),Im 23 25])
 (.cond (t 23)
 (.seq (.reg [I1 26 (.build [(.str []),(.int .i64 0),(.int .i64 0),(.str []),.nils,(.str []),(.str []),.nils] []),Im 27 7,Im 28 8,Is 8 2 26,Im 3 27,Im 4 28])
 .ret)
 (.seq (.reg [Ia 30 8 6,Ip 31 26 [(t 30)],I1 32 (.bin .gtr (t 31) (Ki 12)),Im 29 32])
 (.cond (t 29)
 (.seq (.reg [I1 33 (.build [(.str []),(.int .i64 0),(.int .i64 0),(.str []),.nils,(.str []),(.str []),.nils] []),Is 8 2 33,I1 3 (.mv (Ki 0)),I1 4 (.mv (Ki 11))])
 .ret)
 .skip)))))
 (.seq (.reg [Ia 34 8 6,Is 8 2 34,I1 3 (.mv (Ki 0)),I1 4 (.mv (Ki 0))])
 .ret)))))))
theorem fn19 : Fn Tryz.prog 19 35 [.inr (2,true,8),.inl 3,.inl 4] c19:=⟨⟨_,_,Tryz.func19,rfl,by kernel_rfl,Tryz.ntmps19,by kernel_rfl,Hq0,by kernel_rfl⟩⟩
def c21 : C :=
 (.seq (.reg [I1 1 (.box (t 0)),I1 2 (.mv KF)])
 (.seq (.reg [If 6 0 1,Il 7 6,Ip 8 52 [(t 7)],Im 3 8])
 (.seq (.reg [I1 4 (.mv (Ki 0))])
 (.seq (.seq (.reg [Im 9 3,I1 10 (.bin .eql (t 9) (Ki 2)),Im 11 10,Jm 12 11 false 3,I3 13 11 (.bin .eql (t 12) (Ki 6)),I1 14 (.pick (t 11) KT (t 13)),Im 15 14,Jf 16 15 false 0 1,Jl 17 15 false 16,I3 18 15 (.bin .eql (t 17) (Ks ([115,105,122,101]))),I1 19 (.pick (t 15) KT (t 18))])
 (.cond (t 19)
 (.reg [I1 4 (.mv (Ki 1))])
 .skip))
 (.seq (.seq (.reg [Im 20 3,I1 21 (.bin .eql (t 20) (Ki 0)),Im 22 21,Jm 23 22 false 3,I3 24 22 (.bin .eql (t 23) (Ki 1)),I1 25 (.pick (t 22) KT (t 24)),Im 26 25,Jm 27 26 false 3,I3 28 26 (.bin .geq (t 27) (Ki 3)),Jm 29 26 false 28,Jm 30 29 true 3,I2 31 29 (.bin .leq (t 30) (Ki 5)),I3 32 26 (.pick (t 29) (t 31) KF),I1 33 (.pick (t 26) KT (t 32))])
 (.cond (t 33)
 (.reg [I1 4 (.mv (Ki 2))])
 .skip))
 (.seq (.seq (.reg [Im 34 3,I1 35 (.bin .lss (t 34) (Ki 0)),Im 36 35,Jf 37 36 false 7 1,Jl 38 36 false 37,I3 39 36 (.len (t 38)),Jm 40 36 false 4,I3 41 36 (.bin .neq (t 39) (t 40)),I1 42 (.pick (t 36) KT (t 41))])
 (.cond (t 42)
 (.seq (.reg [I1 2 (.mv KF)])
 .ret)
 .skip))
 (.seq (.seq (.reg [I1 5 (.mv (Ki 0))])
 (.block 0
 (.loop
 (.seq (.seq (.reg [Im 43 5,If 44 7 1,Il 45 44,Iz 46 45,I1 47 (.bin .lss (t 43) (t 46))])
 (.cond (t 47)
 .skip
 (.exit 0)))
 (.seq (.block 1
 (.seq (.reg [If 50 7 1,Il 51 50,Im 52 5,I1 53 (.iaddr 8 (t 51) (t 52)),Ia 54 8 53,Ip 55 21 [(t 54)],I1 56 (.un .not (t 55))])
 (.cond (t 56)
 (.seq (.reg [I1 2 (.mv KF)])
 .ret)
 .skip)))
 (.reg [Im 48 5,I1 49 (.bin .add (t 48) (Ki 1)),Im 5 49]))))))
 (.seq (.seq (.reg [If 57 0 1,Il 58 57,I1 59 (.bin .eql (t 58) (Ks ([118,97,108,117,101])))])
 (.cond (t 59)
 (.seq (.reg [If 60 1 1,Ia 61 4 60,Ip 62 53 [(t 61)],Im 63 62,Jf 64 63 true 5 1,Jl 65 63 true 64,I2 66 63 (.bin .eql (t 65) (Ks ([]))),I1 67 (.pick (t 63) (t 66) KF),Im 68 67,Jf 69 68 true 6 1,Jl 70 68 true 69,I2 71 68 (.bin .eql (t 70) (Ks ([]))),I1 72 (.pick (t 68) (t 71) KF),Im 2 72])
 .ret)
 .skip))
 (.seq (.seq (.reg [If 73 1 1,Ia 74 4 73,I1 75 (.build [(.int .i64 0),(.int .i64 0),(.str []),.nils] []),Ip 76 54 [(t 74),(t 75)],I1 77 (.un .not (t 76))])
 (.cond (t 77)
 (.seq (.reg [I1 2 (.mv KF)])
 .ret)
 .skip))
 (.seq (.seq (.reg [If 78 0 1,Il 79 78,I1 80 (.bin .eql (t 79) (Ks ([97,116,116,114]))),Im 81 80,Jf 82 81 false 0 1,Jl 83 81 false 82,I3 84 81 (.bin .eql (t 83) (Ks ([104,97,115]))),I1 85 (.pick (t 81) KT (t 84))])
 (.cond (t 85)
 (.seq (.reg [If 86 5 1,Il 87 86,Ip 88 55 [(t 87)],Im 89 88,Jf 90 89 true 6 1,Jl 91 89 true 90,I2 92 89 (.pcall (Kf 56) [(t 91)]),I1 93 (.pick (t 89) (t 92) KF),Im 2 93])
 .ret)
 .skip))
 (.seq (.seq (.reg [If 94 0 1,Il 95 94,I1 96 (.bin .eql (t 95) (Ks ([114,111,108,101])))])
 (.cond (t 96)
 (.seq (.reg [If 97 5 1,Il 98 97,I1 99 (.bin .eql (t 98) (Ks ([]))),Im 100 99,Jf 101 100 true 6 1,Jl 102 100 true 101,I2 103 100 (.build [(.int .i64 0),(.str []),(.int .i64 0)] [(0,1,(Ki 3)),(1,1,(t 102))]),I2 104 100 (.pcall (Kf 57) [(t 103)]),I1 105 (.pick (t 100) (t 104) KF),Im 2 105])
 .ret)
 .skip))
 (.seq (.reg [If 106 5 1,Il 107 106,I1 108 (.bin .eql (t 107) (Ks ([]))),Im 109 108,Jf 110 109 true 6 1,Jl 111 109 true 110,I2 112 109 (.bin .eql (t 111) (Ks ([]))),I1 113 (.pick (t 109) (t 112) KF),Im 2 113])
 .ret))))))))))))
theorem fn21 : Fn Tryz.prog 21 114 [.inl 2] c21:=⟨⟨_,_,Tryz.func21,rfl,by kernel_rfl,Tryz.ntmps21,by kernel_rfl,Hq0,by kernel_rfl⟩⟩
def c25 : C :=
 (.seq (.reg [I1 1 (.box (t 0)),I1 2 (.mv KF)])
 (.seq (.reg [Ia 3 8 1,Ip 4 39 [(t 3),(Ki 60)],I1 5 (.bin .leq (t 4) (Ki 60)),Im 6 5,I2 7 6 (.load true 8 (t 1)),I2 8 6 (.pcall (Kf 63) [(t 7)]),I1 9 (.pick (t 6) (t 8) KF),Im 2 9])
 .ret))
theorem fn25 : Fn Tryz.prog 25 10 [.inl 2] c25:=⟨⟨_,_,Tryz.func25,rfl,by kernel_rfl,Tryz.ntmps25,by kernel_rfl,Hq0,by kernel_rfl⟩⟩
def c56 : C :=
 (.seq (.reg [I1 2 (.mv KF)])
 (.seq (.reg [Im 3 0,I1 4 (.build [(.int .i64 0),(.str []),(.int .i64 0)] [(0,1,(Ki 1)),(1,1,(t 3))]),Ip 5 57 [(t 4)],Im 6 5,I2 7 6 (.pcall (Kf 16) []),Jm 8 6 true 0,I2 9 6 (.pcall (Kf 62) [(t 7),(t 8)]),I2 10 6 (.un .not (t 9)),I1 11 (.pick (t 6) (t 10) KF),Im 2 11])
 .ret))
theorem fn56 : Fn Tryz.prog 56 12 [.inl 2] c56:=⟨⟨_,_,Tryz.func56,rfl,by kernel_rfl,Tryz.ntmps56,by kernel_rfl,Hq0,by kernel_rfl⟩⟩
def c78 : C :=
 (.seq (.reg [I1 1 (.box (t 0)),I1 2 (.mv KF)])
 (.seq (.block 0
 (.seq (.reg [Ia 4 4 1,Ip 5 129 [(t 4)],I1 6 (.un .not (t 5)),Im 3 6])
 (.cond (t 3)
 (.seq (.reg [I1 2 (.mv KF)])
 .ret)
 (.seq (.reg [If 8 0 1,Il 9 8,I1 10 (.bin .neq (t 9) (Ki 5)),Im 7 10])
 (.cond (t 7)
 (.seq (.reg [Ia 11 4 1,Ip 12 130 [(t 11),(Ki 0)],Im 2 12])
 .ret)
 .skip)))))
 (.seq (.reg [If 13 3 1,Il 14 13,Iz 15 14,I1 16 (.bin .gtr (t 15) (Ki 0)),Im 17 16,Jf 18 17 true 3 1,Jl 19 17 true 18,I2 20 17 (.pcall (Kf 131) [(t 19),(Kf 132)]),I2 21 17 (.un .not (t 20)),I1 22 (.pick (t 17) (t 21) KF),Im 2 22])
 .ret)))
theorem fn78 : Fn Tryz.prog 78 23 [.inl 2] c78:=⟨⟨_,_,Tryz.func78,rfl,by kernel_rfl,Tryz.ntmps78,by kernel_rfl,Hq0,by kernel_rfl⟩⟩
def c116 : C :=
 (.seq (.reg [I1 6 (.mv (Ki 0))])
 (.seq (.seq (.reg [Im 11 0,Iz 12 11,I1 13 (.mv (Ki 0))])
 (.block 0
 (.loop
 (.seq (.reg [I1 14 (.bin .lss (t 13) (t 12))])
 (.seq (.cond (t 14)
 .skip
 (.exit 0))
 (.seq (.block 1
 (.seq (.reg [Im 15 13,I1 16 (.iaddr 4 (t 11) (t 13)),Ia 17 4 16,I1 8 (.alloc [(.int .i64 0),(.int .i64 0),(.str []),.nils]),Im 7 15,Is 4 8 17])
 (.seq (.seq (.reg [Im 18 7,Im 19 1,Iz 20 19,I1 21 (.bin .geq (t 18) (t 20))])
 (.cond (t 21)
 (.seq (.reg [I1 6 (.mv (Ki 1))])
 .ret)
 .skip))
 (.seq (.reg [Im 22 1,Im 23 7,I1 24 (.iaddr 4 (t 22) (t 23)),Ia 25 4 24,I1 9 (.alloc [(.int .i64 0),(.int .i64 0),(.str []),.nils]),Is 4 9 25])
 (.seq (.reg [Im 26 2,Ia 27 4 8,Ia 28 4 9,I1 29 (.pcall (t 26) [(t 27),(t 28)]),Im 10 29])
 (.seq (.reg [Im 30 10,I1 31 (.bin .neq (t 30) (Ki 0))])
 (.cond (t 31)
 (.seq (.reg [Im 32 10,Im 6 32])
 .ret)
 .skip)))))))
 (.reg [I1 33 (.bin .add (t 13) (Ki 1)),Im 13 33])))))))
 (.seq (.seq (.reg [Im 34 0,Iz 35 34,Im 36 1,Iz 37 36,I1 38 (.bin .lss (t 35) (t 37))])
 (.cond (t 38)
 (.seq (.reg [I1 6 (.mv (k (.int .i64 (-1))))])
 .ret)
 .skip))
 (.seq (.reg [I1 6 (.mv (Ki 0))])
 .ret))))
theorem fn116 : Fn Tryz.prog 116 39 [.inl 6] c116:=⟨⟨_,_,Tryz.func116,rfl,by kernel_rfl,Tryz.ntmps116,by kernel_rfl,Hq0,by kernel_rfl⟩⟩
def c129 : C :=
 (.seq (.reg [I1 1 (.box (t 0)),I1 2 (.mv KF)])
 (.seq (.seq (.reg [If 5 0 1,Il 6 5,I1 7 (.bin .neq (t 6) (Ki 5))])
 (.cond (t 7)
 (.seq (.reg [Ia 8 4 1,Ip 9 179 [(t 8)],Im 2 9])
 .ret)
 .skip))
 (.seq (.seq (.reg [If 10 3 1,Il 11 10,Iz 12 11,I1 13 (.mv (Ki 0))])
 (.block 0
 (.loop
 (.seq (.reg [I1 14 (.bin .lss (t 13) (t 12))])
 (.seq (.cond (t 14)
 .skip
 (.exit 0))
 (.seq (.block 1
 (.seq (.reg [Im 15 13,I1 16 (.iaddr 4 (t 11) (t 13)),Ia 17 4 16,I1 4 (.alloc [(.int .i64 0),(.int .i64 0),(.str []),.nils]),Im 3 15,Is 4 4 17])
 (.seq (.draw 0 [(Ia 18 4 4,[]),(Ip 19 179 [(t 18)],[]),(I1 20 (.un .not (t 19)),[]),(Im 21 20,[]),(Jf 22 21 false 0 4,[]),(Jl 23 21 false 22,[]),(I3 24 21 (.bin .eql (t 23) (Ki 0)),[]),(I1 25 (.pick (t 21) KT (t 24)),[]),(Im 26 25,[]),(Jf 27 26 false 0 4,[]),(Jl 28 26 false 27,[]),(Jf 29 26 false 3 1,[]),(Jl 30 26 false 29,[]),(I3 31 26 (.iaddr 4 (t 30) (Ki 0)),[]),(Jf 32 26 false 0 31,[]),(Jl 33 26 false 32,[]),(I3 34 26 (.bin .neq (t 28) (t 33)),[]),(I1 35 (.pick (t 26) KT (t 34)),[]),(Im 36 35,[]),(Jm 37 36 false 3,[]),(I3 38 36 (.bin .gtr (t 37) (Ki 0)),[]),(Jm 39 36 false 38,[]),(Jf 40 39 true 3 1,[]),(Jl 41 39 true 40,[]),(Jm 42 39 true 3,[]),(I2 43 39 (.bin .sub (t 42) (Ki 1)),[]),(I2 44 39 (.iaddr 4 (t 41) (t 43)),[]),(I2 45 39 (.load true 4 (t 44)),[]),(I2 46 39 (.load true 4 (t 4)),[]),(I2 47 39 (.pcall (Kf 64) [(t 45),(t 46)]),[]),(I2 48 39 (.bin .geq (t 47) (Ki 0)),[]),(I3 49 36 (.pick (t 39) (t 48) KF),[]),(I1 50 (.pick (t 36) KT (t 49)),[])])
 (.cond (t 50)
 (.seq (.reg [I1 2 (.mv KF)])
 .ret)
 .skip))))
 (.reg [I1 51 (.bin .add (t 13) (Ki 1)),Im 13 51])))))))
 (.seq (.reg [If 52 1 1,Il 53 52,I1 54 (.bin .eql (t 53) (Ki 0)),Im 55 54,Jf 56 55 true 2 1,Jl 57 55 true 56,I2 58 55 (.bin .eql (t 57) (Ks ([]))),I1 59 (.pick (t 55) (t 58) KF),Im 60 59,Jf 61 60 true 3 1,Jl 62 60 true 61,I2 63 60 (.len (t 62)),I2 64 60 (.bin .leq (t 63) (Ki 16)),I1 65 (.pick (t 60) (t 64) KF),Im 2 65])
 .ret))))
theorem fn129 : Fn Tryz.prog 129 66 [.inl 2] c129:=⟨⟨_,_,Tryz.func129,rfl,by kernel_rfl,Tryz.ntmps129,by kernel_rfl,Hq0,by kernel_rfl⟩⟩
def c131 : C :=
 (.seq (.reg [I1 4 (.mv KF)])
 (.seq (.reg [Im 5 0,Im 6 1,Ip 7 180 [(t 5),(t 6)],I1 8 (.bin .geq (t 7) (Ki 0)),Im 4 8])
 .ret))
theorem fn131 : Fn Tryz.prog 131 9 [.inl 4] c131:=⟨⟨_,_,Tryz.func131,rfl,by kernel_rfl,Tryz.ntmps131,by kernel_rfl,Hq0,by kernel_rfl⟩⟩
def c134 : C :=
 (.seq (.reg [I1 2 (.mv KF)])
 (.seq (.reg [Im 3 0,I1 4 (.build [(.int .i64 0),(.str []),(.int .i64 0)] [(0,1,(Ki 1)),(1,1,(t 3))]),Ip 5 166 [(t 4)],Im 2 5])
 .ret))
theorem fn134 : Fn Tryz.prog 134 6 [.inl 2] c134:=⟨⟨_,_,Tryz.func134,rfl,by kernel_rfl,Tryz.ntmps134,by kernel_rfl,Hq0,by kernel_rfl⟩⟩
def c147 : C :=
 (.seq (.reg [I1 2 (.mv KF)])
 (.seq (.reg [Im 3 0,I1 4 (.bin .geq (t 3) (k (.int .u8 97))),Im 5 4,Jm 6 5 true 0,I2 7 5 (.bin .leq (t 6) (k (.int .u8 122))),I1 8 (.pick (t 5) (t 7) KF),Im 9 8,Jm 10 9 false 0,I3 11 9 (.bin .eql (t 10) (k (.int .u8 95))),I1 12 (.pick (t 9) KT (t 11)),Im 2 12])
 .ret))
theorem fn147 : Fn Tryz.prog 147 13 [.inl 2] c147:=⟨⟨_,_,Tryz.func147,rfl,by kernel_rfl,Tryz.ntmps147,by kernel_rfl,Hq0,by kernel_rfl⟩⟩
def c148 : C :=
 (.seq (.reg [I1 2 (.mv KF)])
 (.seq (.reg [Im 3 0,I1 4 (.bin .geq (t 3) (k (.int .u8 48))),Im 5 4,Jm 6 5 true 0,I2 7 5 (.bin .leq (t 6) (k (.int .u8 57))),I1 8 (.pick (t 5) (t 7) KF),Im 2 8])
 .ret))
theorem fn148 : Fn Tryz.prog 148 9 [.inl 2] c148:=⟨⟨_,_,Tryz.func148,rfl,by kernel_rfl,Tryz.ntmps148,by kernel_rfl,Hq0,by kernel_rfl⟩⟩
def c174 : C :=
 (.seq (.reg [I1 2 (.mv KF)])
 (.seq (.reg [Im 3 0,Im 4 0,I1 5 (.bin .neq (t 3) (t 4)),Im 2 5])
 .ret))
theorem fn174 : Fn Tryz.prog 174 6 [.inl 2] c174:=⟨⟨_,_,Tryz.func174,rfl,by kernel_rfl,Tryz.ntmps174,by kernel_rfl,Hq0,by kernel_rfl⟩⟩
def c180 : C :=
 (.seq (.reg [I1 4 (.mv (Ki 0))])
 (.seq (.seq (.reg [Im 6 0,Iz 7 6,I1 8 (.mv (Ki 0))])
 (.block 0
 (.loop
 (.seq (.reg [I1 9 (.bin .lss (t 8) (t 7))])
 (.seq (.cond (t 9)
 .skip
 (.exit 0))
 (.seq (.block 1
 (.seq (.reg [Im 10 8,Im 5 10])
 (.seq (.reg [Im 11 1,Im 12 0,Im 13 5,I1 14 (.iaddr 4 (t 12) (t 13)),Ia 15 4 14,I1 16 (.pcall (t 11) [(t 15)])])
 (.cond (t 16)
 (.seq (.reg [Im 17 5,Im 4 17])
 .ret)
 .skip))))
 (.reg [I1 18 (.bin .add (t 8) (Ki 1)),Im 8 18])))))))
 (.seq (.reg [I1 4 (.mv (k (.int .i64 (-1))))])
 .ret)))
theorem fn180 : Fn Tryz.prog 180 19 [.inl 4] c180:=⟨⟨_,_,Tryz.func180,rfl,by kernel_rfl,Tryz.ntmps180,by kernel_rfl,Hq0,by kernel_rfl⟩⟩
def c202 : C :=
 (.seq (.reg [I1 2 (.alloc [(.str []),(.int .i64 0),(.int .i64 0),(.str []),.nils,(.str []),(.str []),.nils])])
 (.seq (.reg [Im 6 0,Ic 7 217 [(t 6)],I1 3 (.alloc [(.str []),(.int .i64 0),(.int .i64 0),(.str []),.nils,(.str []),(.str []),.nils]),Is 8 3 7])
 (.seq (.seq (.reg [I1 8 (.bsl 1 [(Ks ([61,61])),(Ks ([33,61])),(Ks ([60])),(Ks ([60,61])),(Ks ([62])),(Ks ([62,61])),(Ks ([105,110]))]),Iz 9 8,I1 10 (.mv (Ki 0))])
 (.block 0
 (.loop
 (.seq (.reg [I1 11 (.bin .lss (t 10) (t 9))])
 (.seq (.cond (t 11)
 .skip
 (.exit 0))
 (.seq (.block 1
 (.seq (.reg [I1 12 (.iaddr 1 (t 8) (t 10)),Il 13 12,Im 5 13])
 (.seq (.reg [Im 14 0,Im 15 5,Ic 16 69 [(t 14),(t 15)]])
 (.cond (t 16)
 (.seq (.draw 0 [(Im 17 5,[]),(Ia 18 8 3,[]),(Im 19 0,[]),(Ic 20 217 [(t 19)],[Ia 18 8 3]),(Ip 21 169 [(t 17),(t 18),(t 20)],[]),(Is 8 2 21,[])])
 .ret)
 .skip))))
 (.reg [I1 22 (.bin .add (t 10) (Ki 1)),Im 10 22])))))))
 (.seq (.reg [Ia 23 8 3,Is 8 2 23])
 .ret))))
theorem fn202 : Fn Tryz.prog 202 24 [.inr (2,true,8)] c202:=⟨⟨_,_,Tryz.func202,rfl,by kernel_rfl,Tryz.ntmps202,by kernel_rfl,Hq0,by kernel_rfl⟩⟩
def c238 : C :=
 (.seq (.reg [I1 2 (.alloc [(.str []),(.int .i64 0),(.int .i64 0),(.str []),.nils,(.str []),(.str []),.nils])])
 (.seq (.reg [Im 11 0,In 12 11,If 13 1 12,Il 14 13,Im 3 14])
 (.seq (.seq (.reg [Im 16 0,Ic 17 239 [(t 16)],Im 15 17,Ie 18 0 15,Ie 19 1 15,I1 4 (.alloc [(.int .i64 0),(.int .i64 0),(.str []),.nils]),Is 4 4 18,Im 5 19])
 (.seq (.reg [Im 20 5])
 (.cond (t 20)
 (.seq (.reg [Ia 21 4 4,I1 22 (.build [(.str []),(.int .i64 0),(.int .i64 0),(.str []),.nils,(.str []),(.str []),.nils] [(0,1,(Ks ([118,97,108,117,101]))),(1,4,(t 21))]),Is 8 2 22])
 .ret)
 .skip)))
 (.seq (.block 0
 (.seq (.reg [Im 24 0,Ic 25 69 [(t 24),(Ks ([110,111,119]))],Im 23 25])
 (.cond (t 23)
 (.seq (.reg [I1 26 (.build [(.str []),(.int .i64 0),(.int .i64 0),(.str []),.nils,(.str []),(.str []),.nils] [(0,1,(Ks ([110,111,119])))]),Is 8 2 26])
 .ret)
 (.seq (.reg [Im 28 0,Ip 29 117 [(t 28),(Ks ([40]))],Im 27 29])
 (.cond (t 27)
 (.seq (.reg [Im 30 0,Ic 31 240 [(t 30)],Is 8 2 31])
 .ret)
 (.seq (.reg [Im 33 0,Ic 34 69 [(t 33),(Ks ([91]))],Im 32 34])
 (.cond (t 32)
 (.seq (.reg [Im 35 0,Im 36 3,Ic 37 241 [(t 35),(t 36)],Is 8 2 37])
 .ret)
 (.seq (.reg [Im 39 0,Ic 40 69 [(t 39),(Ks ([115,105,122,101]))],Im 38 40])
 (.cond (t 38)
 (.seq (.reg [Im 41 0,Ic 42 240 [(t 41)],I1 43 (.bsl 8 [(t 42)]),I1 44 (.build [(.str []),(.int .i64 0),(.int .i64 0),(.str []),.nils,(.str []),(.str []),.nils] [(0,1,(Ks ([115,105,122,101]))),(7,1,(t 43))]),Is 8 2 44])
 .ret)
 (.seq (.reg [Im 46 0,Ic 47 69 [(t 46),(Ks ([114,111,108,101]))],Im 45 47])
 (.cond (t 45)
 (.seq (.reg [Im 48 0,Ic 49 71 [(t 48),(Ks ([40]))]])
 (.seq (.reg [Im 50 0,Ic 51 120 [(t 50),(Ki 3)],I1 52 (.field false 1 1 (t 51)),I1 53 (.build [(.str []),(.int .i64 0),(.int .i64 0),(.str []),.nils,(.str []),(.str []),.nils] [(0,1,(Ks ([114,111,108,101]))),(6,1,(t 52))]),I1 6 (.alloc [(.str []),(.int .i64 0),(.int .i64 0),(.str []),.nils,(.str []),(.str []),.nils]),Is 8 6 53])
 (.seq (.reg [Im 54 0,Ic 55 71 [(t 54),(Ks ([41]))]])
 (.seq (.reg [Ia 56 8 6,Is 8 2 56])
 .ret))))
 (.seq (.reg [Im 58 0,Ic 59 69 [(t 58),(Ks ([104,97,115]))],Im 57 59])
 (.cond (t 57)
 (.seq (.reg [Im 60 0,Ic 61 71 [(t 60),(Ks ([40]))]])
 (.seq (.reg [Im 63 0,Ic 64 118 [(t 63)],Im 62 64,Ie 65 0 62,Ie 66 1 62,Im 7 65,Im 8 66])
 (.seq (.reg [Im 67 0,Ic 68 71 [(t 67),(Ks ([41]))]])
 (.seq (.reg [Im 69 7,Im 70 8,I1 71 (.build [(.str []),(.int .i64 0),(.int .i64 0),(.str []),.nils,(.str []),(.str []),.nils] [(0,1,(Ks ([104,97,115]))),(5,1,(t 69)),(6,1,(t 70))]),Is 8 2 71])
 .ret))))
 .skip)))))))))))))
 (.seq (.reg [Im 73 0,Ic 74 118 [(t 73)],Im 72 74,Ie 75 0 72,Ie 76 1 72,Im 9 75,Im 10 76])
 (.seq (.reg [Im 77 9,Im 78 10,I1 79 (.build [(.str []),(.int .i64 0),(.int .i64 0),(.str []),.nils,(.str []),(.str []),.nils] [(0,1,(Ks ([97,116,116,114]))),(5,1,(t 77)),(6,1,(t 78))]),Is 8 2 79])
 .ret))))))
theorem fn238 : Fn Tryz.prog 238 80 [.inr (2,true,8)] c238:=⟨⟨_,_,Tryz.func238,rfl,by kernel_rfl,Tryz.ntmps238,by kernel_rfl,Hq0,by kernel_rfl⟩⟩
def c247 : C :=
 (.seq (.reg [I1 2 (.mv KN)])
 (.seq (.seq (.reg [Im 3 0,I1 4 (.eq1 .slc false (t 3) KN)])
 (.cond (t 4)
 (.seq (.reg [I1 2 (.mv KN)])
 .ret)
 .skip))
 (.seq (.reg [I1 5 (.bslm true 4 []),Im 6 0,I1 7 (.appm true false 4 56 (t 5) (t 6)),Im 2 7])
 .ret)))
theorem fn247 : Fn Tryz.prog 247 8 [.inl 2] c247:=⟨⟨_,_,Tryz.func247,rfl,by kernel_rfl,Tryz.ntmps247,by kernel_rfl,Hq1,by kernel_rfl⟩⟩
end GP
namespace GP
open Go Go.Proofs
open Rd O
set_option maxRecDepth 100000
def c176 : C :=
 (.seq (.reg [I1 4 (.mv (Ki 0))])
 (.seq (.reg [Im 5 0,Im 6 1,Ip 7 205 [(t 5),(t 6)],Im 4 7])
 .ret))
theorem fn176 : Fn Tryz.prog 176 8 [.inl 4] c176:=⟨⟨_,_,Tryz.func176,rfl,by kernel_rfl,Tryz.ntmps176,by kernel_rfl,Hq0,by kernel_rfl⟩⟩
end GP
namespace GP
open Go Go.Proofs
theorem gPow : Tryz.prog.globalNamed "internal/strconv.uint64pow10" = some 1 := by kernel_rfl
def Vars (c : Cx) (w : World) : Prop := c.bb.1 = false /\ 2 <= c.B /\ Lib.TabIs Tryz.prog w "internal/strconv.uint64pow10" .u64 Lib.pow10Tab
theorem Vars.mono {c c' : Cx} {w w' : World} (hle : c.le c') (hb : Below c.bb w w') (h : Vars c w) : Vars c' w':=by
 obtain ⟨h0,h1,h2⟩:=h
 refine ⟨by rw [hle.B];exact h0,by show 2 <= c'.bb.2;rw [hle.B];exact h1,?_⟩
 ·unfold Lib.TabIs World.var? at h2 ⊢
  rw [gPow] at h2 ⊢
  simp only [Option.bind_some] at h2 ⊢
  rw [hb.block 1 (by have h1' : 2 <= c.bb.2:=h1;omega)];exact h2
instance hasG : HasG Tryz.prog:=⟨Vars,Vars.mono⟩
end GP
namespace GP
open Go
theorem tf (b : Bool) : b = true ∨ b = false:=by cases b <;> simp
theorem flatD_cons (x : D) (xs : List D) : flatD (x :: xs) = x.cells ++ flatD xs:=by simp [flatD]
theorem flatD_append (xs ys : List D) : flatD (xs ++ ys) = flatD xs ++ flatD ys:=by simp [flatD]
def isAg (sz : Nat) (xs : List D) : Prop:=∀ x ∈ xs,∃ l,x = .agg l /\ l.length = sz
theorem isAg.len {sz : Nat} {xs : List D} (h : isAg sz xs) : ∀ x ∈ xs,x.cells.length = sz:=fun x hx=>by
 obtain ⟨l,rfl,hl⟩:=h x hx;exact hl
theorem isAg.fit {sz : Nat} {xs : List D} (h : isAg sz xs) : xs.all (fit sz) = true:=List.all_eq_true.2 fun x hx=>by
 obtain ⟨l,rfl,hl⟩:=h x hx;simp [GP.fit,D.okc,D.cells,hl]
theorem isAg.flat {sz : Nat} {xs : List D} (h : isAg sz xs) : (flatD xs).length = xs.length * sz:=flatD_len h.len
theorem isAg.sub {sz : Nat} {xs ys : List D} (h : isAg sz xs) (k : ∀ y ∈ ys,y ∈ xs) : isAg sz ys:=fun y hy=>h y (k y hy)
theorem isAg.set {sz : Nat} {xs : List D} (h : isAg sz xs) {x : D} (hx : ∃ l,x = .agg l /\ l.length = sz) (i : Nat) : isAg sz (xs.set i x):=fun y hy=>by
 rcases List.mem_or_eq_of_mem_set hy with h' | rfl
 ·exact h y h'
 ·exact hx
theorem flatD_drop {sz : Nat} : ∀ (xs : List D) (i : Nat),(∀ x ∈ xs,x.cells.length = sz) -> (flatD xs).drop (i * sz) = flatD (xs.drop i)
 | [],i,_=>by simp [flatD]
 | x :: xs,0,_=>by simp
 | x :: xs,i + 1,h=>by
  rw [flatD_cons,List.drop_succ_cons,← flatD_drop xs i (fun y hy=>h y (by simp [hy])),show (i + 1) * sz = x.cells.length + i * sz by rw [h x (by simp)];rw [Nat.add_mul];omega,← List.drop_drop,List.drop_left]
theorem flatD_take {sz : Nat} : ∀ (xs : List D) (i : Nat),(∀ x ∈ xs,x.cells.length = sz) -> (flatD xs).take (i * sz) = flatD (xs.take i)
 | [],i,_=>by simp [flatD]
 | x :: xs,0,_=>by simp [flatD]
 | x :: xs,i + 1,h=>by
  rw [flatD_cons,List.take_succ_cons,flatD_cons,← flatD_take xs i (fun y hy=>h y (by simp [hy])),show (i + 1) * sz = x.cells.length + i * sz by rw [h x (by simp)];rw [Nat.add_mul];omega,List.take_length_add_append]
theorem chunk_flat {sz : Nat} : ∀ (xs : List D) (rest : List D),isAg sz xs -> chunk true sz xs.length (flatD xs ++ rest) = xs
 | [],_,_=>rfl
 | x :: xs,rest,h=>by
  obtain ⟨l,rfl,hl⟩:=h x (by simp)
  simp only [List.length_cons,chunk,if_true,flatD_cons,D.cells,List.append_assoc]
  rw [List.take_left' hl,List.drop_left' hl,chunk_flat xs rest (h.sub fun y hy=>by simp [hy])]
theorem rd_ms {sz : Nat} {xs rest : List D} {H : Hp} {o i off : Nat} {x : D} (ho : H[o]? = some (.row (flatD xs ++ rest))) (h : isAg sz xs) (hx : xs[i]? = some x) (hoff : off = i * sz) : ld true sz (rdAt H (.ptr o off)) = some x:=by
 subst hoff
 have hi : i < xs.length:=by
  rcases Nat.lt_or_ge i xs.length with h' | h'
  ·exact h'
  ·rw [List.getElem?_eq_none h'] at hx;cases hx
 obtain ⟨l,rfl,hl⟩:=h x (List.mem_of_getElem? hx)
 have hd : (flatD xs ++ rest).drop (i * sz) = l ++ (flatD (xs.drop (i + 1)) ++ rest):=by
  rw [List.drop_append_of_le_length (by rw [h.flat];exact Nat.mul_le_mul_right _ (by omega)),flatD_drop xs i h.len]
  have : xs.drop i = xs[i] :: xs.drop (i + 1):=List.drop_eq_getElem_cons hi
  rw [this,flatD_cons]
  have : xs[i] = .agg l:=by rw [List.getElem?_eq_getElem hi] at hx;injection hx
  rw [this];simp [D.cells]
 simp only [rdAt,ho,hd,ld,if_true]
 rw [if_pos (by simp [hl]),List.take_left' hl]
theorem st_ms {sz : Nat} {xs rest : List D} {H : Hp} {t : Nat -> D} {T : Tk} {o i off : Nat} {x : D} {K : D -> S -> Prop} (ho : H[o]? = some (.row (flatD xs ++ rest))) (h : isAg sz xs) (hx : ∃ l,x = .agg l /\ l.length = sz) (hi : i < xs.length) (hoff : off = i * sz)
  (k : K .top ⟨t,H.set o (.row (flatD (xs.set i x) ++ rest)),T⟩) : storeK sz K ⟨t,H,T⟩ (.ptr o off) x:=by
 subst hoff
 obtain ⟨l,rfl,hl⟩:=hx
 have hle : i * sz + sz <= xs.length * sz:=by
  have:=Nat.mul_le_mul_right sz (show i + 1 <= xs.length from hi)
  rwa [Nat.add_mul,Nat.one_mul] at this
 simp only [storeK,ho]
 refine ⟨rfl,hl,by simp [h.flat];omega,?_⟩
 have e : (flatD xs ++ rest).take (i * sz) ++ D.cells (.agg l) ++ (flatD xs ++ rest).drop (i * sz + sz) = flatD (xs.set i (.agg l)) ++ rest:=by
  rw [List.take_append_of_le_length (by rw [h.flat];omega),List.drop_append_of_le_length (by rw [h.flat];omega),flatD_take xs i h.len,
   show i * sz + sz = (i + 1) * sz by rw [Nat.add_mul];omega,flatD_drop xs (i + 1) h.len,List.set_eq_take_append_cons_drop,if_pos hi,flatD_append,flatD_cons]
  simp
 rw [e];exact k
theorem ia_msN {ag : Bool} {sz o off n cap i : Nat} {k : IntKind} (h : i < n) : ia sz (.ms ag sz o off n cap) (.int k (i : Nat)) = some (.ptr o (off + i * sz)):=by
 have e : ((i : Nat) : Int).toNat = i:=by omega
 simp only [ia]
 rw [if_pos (by refine ⟨by omega,by omega,?_⟩;trivial),e]
theorem slc_msN {ag : Bool} {sz o off n cap l h : Nat} (h1 : l <= h) (h2 : h <= n) (h3 : l < cap) : slc sz (some ((l : Nat) : Int)) (some ((h : Nat) : Int)) (.ms ag sz o off n cap) = some (.ms ag sz o (off + l * sz) (h - l) (cap - l)):=by
 have e1 : ((l : Nat) : Int).toNat = l:=by omega
 have e2 : (((h : Nat) : Int) - ((l : Nat) : Int)).toNat = h - l:=by omega
 simp only [slc]
 rw [if_pos (by refine ⟨by omega,by omega,by omega,by omega,?_⟩;trivial),e1,e2]
theorem slc_ms0 {ag : Bool} {sz o off n cap h : Nat} (h2 : h <= n) (h3 : 0 < cap) : slc sz (some (0 : Int)) (some ((h : Nat) : Int)) (.ms ag sz o off n cap) = some (.ms ag sz o off h cap):=by
 have:=slc_msN (ag:=ag) (sz:=sz) (o:=o) (off:=off) (n:=n) (cap:=cap) (l:=0) (h:=h) (by omega) h2 h3
 simpa using this
theorem clr_ms {sz : Nat} {z xs rest : List D} {H : Hp} {t : Nat -> D} {T : Tk} {o q n cap off : Nat} {ag : Bool} {K : D -> S -> Prop} (ho : H[o]? = some (.row (flatD xs ++ rest))) (h : isAg sz xs) (hz : z.length = sz) (hq : q + n = xs.length) (hoff : off = q * sz)
  (k : ∀ rest',K (.tup []) ⟨t,H.set o (.row (flatD (xs.take q) ++ rest')),T⟩) : clrK z K ⟨t,H,T⟩ (.ms ag sz o off n cap):=by
 subst hoff
 have hle : q * sz + n * sz = xs.length * sz:=by rw [<- hq,Nat.add_mul]
 simp only [clrK,ho]
 refine ⟨hz.symm,by simp [h.flat];omega,?_⟩
 rw [List.take_append_of_le_length (by rw [h.flat];omega),flatD_take xs q h.len,List.append_assoc]
 exact k _
end GP
namespace GP
open Go Go.Proofs
set_option maxRecDepth 100000
theorem wrapD (a : Int) : IntKind.i64.wrap a = if a % 2 ^ 64 ≥ 2 ^ 63 then a % 2 ^ 64 - 2 ^ 64 else a % 2 ^ 64:=by simp [IntKind.wrap,IntKind.bits,IntKind.signed]
theorem wrap_in {a : Int} (h1 : -(2 ^ 63) <= a) (h2 : a < 2 ^ 63) : IntKind.i64.wrap a = a:=by rw [wrapD];split <;> omega
theorem wrap_su (n : Nat) (h : n < 2 ^ 61) : IntKind.i64.wrap ((n : Int) + 1) = ((n + 1 : Nat) : Int):=by rw [wrap_in (by omega) (by omega)];rfl
theorem ixs_s (l : List UInt8) (k : IntKind) (n : Int) : ixs (.str l) (.int k n) = if 0 <= n then (l[n.toNat]?).map fun b=>.int .u8 b.toNat else none:=rfl
theorem ixs_at {l : List UInt8} {i : Nat} {b : UInt8} (h : l[i]? = some b) (k : IntKind) : ixs (.str l) (.int k (i : Int)) = some (.int .u8 b.toNat):=by
 rw [ixs_s,if_pos (by omega)];simp [h]
def pSmall (n : Int) : Bool:=(decide (97 <= n) && decide (n <= 122)) || n == 95
def pDigit (n : Int) : Bool:=decide (48 <= n) && decide (n <= 57)
def pWord (n : Int) : Bool:=pSmall n || pDigit n
def pText (n : Int) : Bool:=decide (32 <= n) && decide (n <= 126)
def pNote (n : Int) : Bool:=n != 10
def φb (p : Int -> Bool) : List D -> Option D
 | [.int .u8 n]=>some (.bool (p n))
 | _=>none
theorem ok147 : OkAt Tryz.prog 147 (φb pSmall):=by
 refine ok_of (l:=[]) .nil fn147 fun args r h=>?_
 unfold φb at h
 split at h
 ·rename_i n
  injection h with h;subst h
  refine ⟨by simp,by simp [D.cl],fun H T=>?_⟩
  unfold pSmall
  rcases tf (decide (97 <= n)) with h1 | h1
  ·rcases tf (decide (n <= 122)) with h2 | h2
   ·simp +contextual (maxSteps:=10000000) only [c147,h1,h2,go_sem]
   ·simp +contextual (maxSteps:=10000000) only [c147,h1,h2,go_sem]
  ·simp +contextual (maxSteps:=10000000) only [c147,h1,go_sem]
 ·cases h
theorem ok148 : OkAt Tryz.prog 148 (φb pDigit):=by
 refine ok_of (l:=[]) .nil fn148 fun args r h=>?_
 unfold φb at h
 split at h
 ·rename_i n
  injection h with h;subst h
  refine ⟨by simp,by simp [D.cl],fun H T=>?_⟩
  unfold pDigit
  rcases tf (decide (48 <= n)) with h1 | h1 <;> simp +contextual (maxSteps:=10000000) only [c148,h1,go_sem]
 ·cases h
theorem ok200 : OkAt Tryz.prog 200 (φb pText):=by
 refine ok_of (l:=[]) .nil fn200 fun args r h=>?_
 unfold φb at h
 split at h
 ·rename_i n
  injection h with h;subst h
  refine ⟨by simp,by simp [D.cl],fun H T=>?_⟩
  unfold pText
  rcases tf (decide (32 <= n)) with h1 | h1 <;> simp +contextual (maxSteps:=10000000) only [c200,h1,go_sem]
 ·cases h
theorem ok145 : OkAt Tryz.prog 145 (φb pNote):=by
 refine ok_of (l:=[]) .nil fn145 fun args r h=>?_
 unfold φb at h
 split at h
 ·rename_i n
  injection h with h;subst h
  refine ⟨by simp,by simp [D.cl],fun H T=>?_⟩
  unfold pNote
  simp +contextual (maxSteps:=10000000) only [c145,go_sem]
 ·cases h
theorem ok199 : OkAt Tryz.prog 199 (φb pWord):=by
 refine ok_of (l:=[(147,φb pSmall),(148,φb pDigit)]) (.cons ok147 (.cons ok148 .nil)) fn199 fun args r h=>?_
 unfold φb at h
 split at h
 ·rename_i n
  injection h with h;subst h
  refine ⟨by simp,by simp [D.cl],fun H T=>?_⟩
  unfold pWord
  have p1 : φb pSmall [.int .u8 n] = some (.bool (pSmall n)):=rfl
  have p2 : φb pDigit [.int .u8 n] = some (.bool (pDigit n)):=rfl
  rcases tf (pSmall n) with h1 | h1 <;> simp +contextual (maxSteps:=10000000) only [c199,p1,p2,h1,go_sem]
 ·cases h
theorem ok146 : OkAt Tryz.prog 146 (φb pWord):=by
 refine ok_of (l:=[(147,φb pSmall),(148,φb pDigit)]) (.cons ok147 (.cons ok148 .nil)) fn146 fun args r h=>?_
 unfold φb at h
 split at h
 ·rename_i n
  injection h with h;subst h
  refine ⟨by simp,by simp [D.cl],fun H T=>?_⟩
  unfold pWord
  have p1 : φb pSmall [.int .u8 n] = some (.bool (pSmall n)):=rfl
  have p2 : φb pDigit [.int .u8 n] = some (.bool (pDigit n)):=rfl
  rcases tf (pSmall n) with h1 | h1 <;> simp +contextual (maxSteps:=10000000) only [c146,p1,p2,h1,go_sem]
 ·cases h
def runL (p : Int -> Bool) (l : List UInt8) : Nat:=(l.takeWhile fun b=>p (b.toNat : Int)).length
def runN (p : Int -> Bool) (l : List UInt8) (a : Nat) : Nat:=runL p (l.drop a)
theorem runL_eq {p : Int -> Bool} : ∀ {l : List UInt8} {i : Nat},(∀ j b,j < i -> l[j]? = some b -> p b.toNat = true) -> i <= l.length -> (i = l.length ∨ ∃ b,l[i]? = some b /\ p b.toNat = false) -> runL p l = i
 | [],i,_,h,_=>by simp at h;subst h;rfl
 | c :: l,0,_,_,h=>by
  rcases h with h | ⟨b,h1,h2⟩
  ·simp at h
  ·simp at h1;subst h1;simp [runL,h2]
 | c :: l,i + 1,h,hi,he=>by
  have hc:=h 0 c (by omega) rfl
  have:=runL_eq (p:=p) (l:=l) (i:=i) (fun j b hj hb=>h (j + 1) b (by omega) (by simpa using hb)) (by simpa using hi) (by simpa using he)
  simp only [runL,List.takeWhile_cons,hc,if_true,List.length_cons] at this ⊢
  omega
theorem runN_eq {p : Int -> Bool} {l : List UInt8} {a i : Nat} (h : ∀ j b,j < i -> l[a + j]? = some b -> p b.toNat = true) (hi : a + i <= l.length) (he : a + i = l.length ∨ ∃ b,l[a + i]? = some b /\ p b.toNat = false) : runN p l a = i :=
 runL_eq (fun j b hj hb=>h j b hj (by simpa using hb)) (by simp;omega) (he.imp (fun h=>by simp;omega) (fun ⟨b,h1,h2⟩=>⟨b,by simpa using h1,h2⟩))
def sorts (f : Nat) : Option (Int -> Bool):=if f = 199 then some pWord else if f = 148 then some pDigit else if f = 200 then some pText else if f = 145 then some pNote else if f = 146 then some pWord else none
def lst : Fs:=[(199,φb pWord),(148,φb pDigit),(200,φb pText),(145,φb pNote),(146,φb pWord)]
theorem lst_ok : Ok Tryz.prog lst:=.cons ok199 (.cons ok148 (.cons ok200 (.cons ok145 (.cons ok146 .nil))))
theorem lst_look {f : Nat} {p : Int -> Bool} (h : sorts f = some p) (n : Int) : look lst f [.int .u8 n] = some (.bool (p n)):=by
 unfold sorts at h
 split at h
 ·rename_i e;subst e;injection h with h;subst h;rfl
 split at h
 ·rename_i e;subst e;injection h with h;subst h;rfl
 split at h
 ·rename_i e;subst e;injection h with h;subst h;rfl
 split at h
 ·rename_i e;subst e;injection h with h;subst h;rfl
 split at h
 ·rename_i e;subst e;injection h with h;subst h;rfl
 ·cases h
def φrun : List D -> Option D
 | [.str l,.int .i64 a,.fn f [] []]=>match sorts f with
  | some p=>if 0 <= a /\ a <= l.length /\ l.length <= 2 ^ 60 then some (.int .i64 (runN p l a.toNat)) else none
  | none=>none
 | _=>none
set_option maxHeartbeats 2000000 in
theorem ok144 : OkAt Tryz.prog 144 φrun:=by
 refine ok_of lst_ok fn144 fun args r h=>?_
 unfold φrun at h
 split at h
 ·rename_i l a f
  split at h
  ·rename_i p hp
   split at h
   ·rename_i hc
    obtain ⟨ha0,ha,hl⟩:=hc
    injection h with h;subst h
    obtain ⟨a,rfl⟩ : ∃ k : Nat,a = (k : Int):=⟨a.toNat,by omega⟩
    have ha : a <= l.length:=by omega
    refine ⟨by simp,by simp [D.cl],fun H T=>?_⟩
    rw [show ((a : Int)).toNat = a from by omega]
    have pl:=fun n=>lst_look hp n
    simp +contextual (maxSteps:=10000000) only [c144,go_sem]
    refine W_for (fun i s'=>s'.t 0 = .str l /\ s'.t 1 = .int .i64 a /\ s'.t 2 = .fn f [] [] /\ s'.t 7 = .int .i64 ((a + i : Nat) : Int) /\ s'.H = H /\ s'.T = T /\ a + i <= l.length /\ ∀ j b,j < i -> l[a + j]? = some b -> p b.toNat = true) l.length ⟨0,by simp [upd,argT,ha]⟩ (fun i s h=>by have:=h.2.2.2.2.2.2.1;omega) ?_ (XL_mono _)
    rintro i ⟨t,B,T'⟩ ⟨r0,r1,r2,r7,rfl,rfl,hi,hc⟩
    simp only at r0 r1 r2 r7
    have fin : ∀ {k : Nat},k = i -> (a + k = l.length ∨ ∃ b,l[a + k]? = some b /\ p b.toNat = false) -> runN p l a = k:=fun e h=>by subst e;exact runN_eq hc hi h
    have wS : IntKind.i64.wrap (((a + i : Nat) : Int) - (a : Int)) = (i : Int):=by rw [wrap_in (by omega) (by omega)];omega
    by_cases hlt : a + i < l.length
    ·have d1 : decide (((a + i : Nat) : Int) < l.length) = true:=by simp only [decide_eq_true_eq];omega
     have ex : l[a + i]? = some l[a + i]:=by simp [hlt]
     obtain ⟨b,hb⟩ : ∃ b,l[a + i] = b:=⟨_,rfl⟩
     rw [hb] at ex
     have q:=pl (b.toNat : Int)
     have ix:=fun k=>ixs_at ex k
     rcases tf (p (b.toNat : Int)) with g | g
     ·have hnx : ∀ j b,j < i + 1 -> l[a + j]? = some b -> p b.toNat = true:=fun j c hj hc'=>by
       rcases Nat.lt_or_ge j i with h' | h'
       ·exact hc j c h' hc'
       ·have : j = i:=by omega
        subst this;rw [ex] at hc';injection hc' with hc';subst hc';exact g
      simp +contextual (maxSteps:=10000000) only [r0,r1,r2,r7,d1,ix,q,g,wrap_su (a + i) (by omega),go_sem]
      exact ⟨by rw [Nat.add_assoc],by omega,hnx⟩
     ·have hr:=fin rfl (.inr ⟨b,ex,g⟩)
      rw [hr]
      simp +contextual (maxSteps:=10000000) only [r0,r1,r2,r7,d1,ix,q,g,wS,go_sem]
    ·have d1 : decide (((a + i : Nat) : Int) < l.length) = false:=by simp only [decide_eq_false_iff_not];omega
     have hr:=fin rfl (.inl (by omega))
     rw [hr]
     simp +contextual (maxSteps:=10000000) only [r0,r1,r2,r7,d1,wS,go_sem]
   ·cases h
  ·cases h
 ·cases h
end GP
namespace GP
open Go Go.Proofs
set_option maxRecDepth 100000
def signsB : List (List UInt8):=[[61,61],[33,61],[60,61],[62,61],[123],[125],[40],[41],[91],[93],[59],[46],[44],[43],[45],[42],[60],[62]]
def φsigns : List D -> Option D
 | []=>some (.sl none (signsB.map .str))
 | _=>none
theorem ok151 : OkAt Tryz.prog 151 φsigns:=by
 refine ok_of (l:=[]) .nil fn151 fun args r h=>?_
 unfold φsigns at h
 split at h
 ·injection h with h;subst h
  refine ⟨by simp,by decide,fun H T=>?_⟩
  simp +contextual (maxSteps:=10000000) only [c151,go_sem]
  rfl
 ·cases h
end GP
namespace Go.Proofs
open Go.Shelf
shelf_lay LaysC.n174 Nm 174 at Tryz as Tryz.laysPI
shelf_lay LaysM.n173 Nm 173 at Tryz as Tryz.laysFI
end Go.Proofs
namespace GP
open Go Go.Proofs
set_option maxRecDepth 100000
def mkT (k : Int) (s : List UInt8) (n : Int) : D:=.agg [.int .i64 k,.str s,.int .i64 n]
end GP
