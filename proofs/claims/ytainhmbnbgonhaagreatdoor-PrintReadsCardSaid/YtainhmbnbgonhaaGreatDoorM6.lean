import Derived.Conc.EntryLaws
import Derived.Ground.NamesProg
import Derived.Ground.SlsfProg
import Derived.Lib.Bytealg
import Derived.Lib.ItoaNum
import Derived.Lib.LaidTab
import Derived.Shelf.Lay
import Derived.Shelf.Strconv.Itoa4
import Derived.Shelf.Strconv.ParseIntPublic10
import Derived.Test.YtainhmbnbgonhaaGreatDoorProg
import Derived.Test.YtainhmbnbgonhaaGreatDoorM4
import Derived.Test.YtainhmbnbgonhaaGreatDoorM5
set_option linter.unusedSimpArgs false
set_option linter.unnecessarySimpa false
namespace GP
open Go Go.Proofs
open Rd O
set_option maxRecDepth 100000
def c48 : C :=
 (.seq (.reg [I1 0 (.mv KN)])
 (.seq (.reg [I1 1 (.bsl 1 [(Ks ([102,97,99,116])),(Ks ([116,114,117,116,104])),(Ks ([110,117,109,98,101,114])),(Ks ([116,101,120,116])),(Ks ([116,105,109,101])),(Ks ([98,97,103])),(Ks ([117,115,101])),(Ks ([112,111,108,105,99,121])),(Ks ([98,121])),(Ks ([102,111,114])),(Ks ([112,101,114,109,105,116])),(Ks ([100,101,110,121])),(Ks ([105,102])),(Ks ([100,117,116,121])),(Ks ([97,100,118,105,99,101])),(Ks ([116,114,117,101])),(Ks ([102,97,108,115,101])),(Ks ([110,111,119])),(Ks ([111,114])),(Ks ([97,110,100])),(Ks ([110,111,116])),(Ks ([105,110])),(Ks ([104,97,115])),(Ks ([114,111,108,101])),(Ks ([115,105,122,101])),(Ks ([115,117,98,106,101,99,116])),(Ks ([114,101,115,111,117,114,99,101])),(Ks ([97,99,116,105,111,110])),(Ks ([101,110,118]))]),Im 0 1])
 .ret))
theorem fn48 : Fn Tryz.prog 48 2 [.inl 0] c48:=⟨⟨_,_,Tryz.func48,rfl,by kernel_rfl,Tryz.ntmps48,by kernel_rfl,Hq0,by kernel_rfl⟩⟩
def c51 : C :=
 (.seq (.reg [I1 2 (.box (t 0)),I1 3 (.box (t 1)),I1 4 (.mv KF)])
 (.seq (.reg [If 5 1 2,Ia 6 4 5,If 7 1 3,Ia 8 4 7,Ip 9 54 [(t 6),(t 8)],Im 4 9])
 .ret))
theorem fn51 : Fn Tryz.prog 51 10 [.inl 4] c51:=⟨⟨_,_,Tryz.func51,rfl,by kernel_rfl,Tryz.ntmps51,by kernel_rfl,Hq0,by kernel_rfl⟩⟩
def c64 : C :=
 (.seq (.reg [I1 2 (.box (t 0)),I1 3 (.box (t 1)),I1 4 (.mv (Ki 0))])
 (.seq (.seq (.draw 0 [(If 6 0 2,[]),(Il 7 6,[]),(If 8 0 3,[]),(Il 9 8,[]),(Ip 10 113 [(t 7),(t 9)],[]),(If 11 1 2,[]),(Il 12 11,[]),(If 13 1 3,[]),(Il 14 13,[]),(Ip 15 114 [(t 12),(t 14)],[]),(If 16 2 2,[]),(Il 17 16,[]),(If 18 2 3,[]),(Il 19 18,[]),(Ip 20 115 [(t 17),(t 19)],[]),(I1 21 (.bslq 1 [(t 10),(t 15),(t 20)]),[]),(Ip 22 112 [(t 21)],[]),(Im 5 22,[])])
 (.seq (.reg [Im 23 5,I1 24 (.bin .neq (t 23) (Ki 0))])
 (.cond (t 24)
 (.seq (.reg [Im 25 5,Im 4 25])
 .ret)
 .skip)))
 (.seq (.reg [If 26 3 2,Il 27 26,If 28 3 3,Il 29 28,Ip 30 116 [(t 27),(t 29),(Kf 64)],Im 4 30])
 .ret)))
theorem fn64 : Fn Tryz.prog 64 31 [.inl 4] c64:=⟨⟨_,_,Tryz.func64,rfl,by kernel_rfl,Tryz.ntmps64,by kernel_rfl,Hq0,by kernel_rfl⟩⟩
def c69 : C :=
 (.seq (.reg [I1 4 (.mv KF)])
 (.seq (.seq (.reg [Im 5 0,Im 6 1,Ip 7 117 [(t 5),(t 6)],I1 8 (.un .not (t 7))])
 (.cond (t 8)
 (.seq (.reg [I1 4 (.mv KF)])
 .ret)
 .skip))
 (.seq (.reg [Im 9 0,In 10 9,If 11 1 10,Il 12 11,I1 13 (.bin .add (t 12) (Ki 1)),In 14 9,If 15 1 14,Is 1 15 13])
 (.seq (.reg [I1 4 (.mv KT)])
 .ret))))
theorem fn69 : Fn Tryz.prog 69 16 [.inl 4] c69:=⟨⟨_,_,Tryz.func69,rfl,by kernel_rfl,Tryz.ntmps69,by kernel_rfl,Hq0,by kernel_rfl⟩⟩
def c80 : C :=
 (.seq (.reg [I1 1 (.box (t 0)),I1 2 (.mv KF)])
 (.seq (.reg [Ia 3 8 1,Ip 4 35 [(t 3)],I1 5 (.un .not (t 4)),Im 2 5])
 .ret))
theorem fn80 : Fn Tryz.prog 80 6 [.inl 2] c80:=⟨⟨_,_,Tryz.func80,rfl,by kernel_rfl,Tryz.ntmps80,by kernel_rfl,Hq0,by kernel_rfl⟩⟩
def c81 : C :=
 (.seq (.reg [I1 1 (.box (t 0)),I1 2 (.mv KF)])
 (.seq (.seq (.reg [If 9 0 1,Il 10 9,Iz 11 10,I1 12 (.mv (Ki 0))])
 (.block 0
 (.loop
 (.seq (.reg [I1 13 (.bin .lss (t 12) (t 11))])
 (.seq (.cond (t 13)
 .skip
 (.exit 0))
 (.seq (.block 1
 (.seq (.reg [I1 14 (.iaddr 4 (t 10) (t 12)),Ia 15 4 14,I1 4 (.alloc [(.str []),(.str []),(.int .i64 0),(.bool false)]),Is 4 4 15])
 (.seq (.reg [If 16 0 4,Il 17 16,Ip 18 126 [(t 17)],I1 19 (.un .not (t 18)),Im 20 19,Jf 21 20 false 1 4,Jl 22 20 false 21,I3 23 20 (.pcall (Kf 127) [(t 22)]),I3 24 20 (.un .not (t 23)),I1 25 (.pick (t 20) KT (t 24)),Im 26 25,Jf 27 26 false 2 4,Jl 28 26 false 27,I3 29 26 (.bin .lss (t 28) (Ki 1)),I1 30 (.pick (t 26) KT (t 29)),Im 31 30,Jf 32 31 false 2 4,Jl 33 31 false 32,I3 34 31 (.bin .gtr (t 33) (Ki 4)),I1 35 (.pick (t 31) KT (t 34))])
 (.cond (t 35)
 (.seq (.reg [I1 2 (.mv KF)])
 .ret)
 .skip))))
 (.reg [I1 36 (.bin .add (t 12) (Ki 1)),Im 12 36])))))))
 (.seq (.seq (.reg [If 37 2 1,Il 38 37,Iz 39 38,I1 40 (.mv (Ki 0))])
 (.block 2
 (.loop
 (.seq (.reg [I1 41 (.bin .lss (t 40) (t 39))])
 (.seq (.cond (t 41)
 .skip
 (.exit 2))
 (.seq (.block 3
 (.seq (.reg [I1 42 (.iaddr 13 (t 38) (t 40)),Ia 43 13 42,I1 6 (.alloc [(.str []),(.str []),(.str []),(.bool false),(.str []),(.int .i64 0),(.int .i64 0),(.str []),.nils,(.str []),(.str []),.nils,.nils]),Is 13 6 43])
 (.seq (.seq (.reg [If 44 0 6,Il 45 44,Ip 46 127 [(t 45)],I1 47 (.un .not (t 46)),Im 48 47,Jf 49 48 false 1 6,Jl 50 48 false 49,I3 51 48 (.pcall (Kf 127) [(t 50)]),I3 52 48 (.un .not (t 51)),I1 53 (.pick (t 48) KT (t 52)),Im 54 53,Jf 55 54 false 2 6,Jl 56 54 false 55,I3 57 54 (.pcall (Kf 134) [(t 56)]),I3 58 54 (.un .not (t 57)),I1 59 (.pick (t 54) KT (t 58)),Im 60 59,Jf 61 60 false 3 6,Jl 62 60 false 61,Jf 63 60 false 4 6,I3 64 60 (.load true 8 (t 63)),I3 65 60 (.pcall (Kf 135) [(t 62),(t 64)]),I3 66 60 (.un .not (t 65)),I1 67 (.pick (t 60) KT (t 66))])
 (.cond (t 67)
 (.seq (.reg [I1 2 (.mv KF)])
 .ret)
 .skip))
 (.seq (.reg [If 68 12 6,Il 69 68,Iz 70 69,I1 71 (.mv (Ki 0))])
 (.block 4
 (.loop
 (.seq (.reg [I1 72 (.bin .lss (t 71) (t 70))])
 (.seq (.cond (t 72)
 .skip
 (.exit 4))
 (.seq (.block 5
 (.seq (.reg [I1 73 (.iaddr 13 (t 69) (t 71)),Ia 74 13 73,I1 8 (.alloc [(.bool false),(.str []),(.bool false),(.str []),(.int .i64 0),(.int .i64 0),(.str []),.nils,(.str []),(.str []),.nils,.nils,.nils]),Is 13 8 74])
 (.seq (.reg [Ia 75 13 8,Ip 76 136 [(t 75)],I1 77 (.un .not (t 76))])
 (.cond (t 77)
 (.seq (.reg [I1 2 (.mv KF)])
 .ret)
 .skip))))
 (.reg [I1 78 (.bin .add (t 71) (Ki 1)),Im 71 78]))))))))))
 (.reg [I1 79 (.bin .add (t 40) (Ki 1)),Im 40 79])))))))
 (.seq (.reg [If 80 1 1,Il 81 80,Ip 82 134 [(t 81)],Im 2 82])
 .ret))))
theorem fn81 : Fn Tryz.prog 81 83 [.inl 2] c81:=⟨⟨_,_,Tryz.func81,rfl,by kernel_rfl,Tryz.ntmps81,by kernel_rfl,Hq0,by kernel_rfl⟩⟩
def c103 : C :=
 (.seq (.reg [I1 6 (.alloc [(.str []),(.int .i64 0),(.int .i64 0),(.str []),.nils,(.str []),(.str []),.nils])])
 (.seq (.reg [Im 11 1,I1 12 (.call (t 11) []),I1 7 (.alloc [(.str []),(.int .i64 0),(.int .i64 0),(.str []),.nils,(.str []),(.str []),.nils]),Is 8 7 12])
 (.seq (.block 0
 (.loop
 (.seq (.seq (.reg [Im 13 0,In 14 13,If 15 2 14,Il 16 15,I1 17 (.bin .eql (t 16) (Ki 0))])
 (.cond (t 17)
 .skip
 (.exit 0)))
 (.block 1
 (.seq (.reg [I1 8 (.mv (Ks ([])))])
 (.seq (.seq (.reg [Im 18 2,Iz 19 18,I1 20 (.mv (Ki 0))])
 (.block 2
 (.loop
 (.seq (.reg [I1 21 (.bin .lss (t 20) (t 19))])
 (.seq (.cond (t 21)
 .skip
 (.exit 2))
 (.seq (.block 3
 (.seq (.reg [I1 22 (.iaddr 1 (t 18) (t 20)),Il 23 22,Im 10 23])
 (.seq (.reg [Im 24 8,I1 25 (.bin .eql (t 24) (Ks ([]))),Im 26 25,Jm 27 26 true 0,Jm 28 26 true 10,I2 29 26 (.call (Kf 69) [(t 27),(t 28)]),I1 30 (.pick (t 26) (t 29) KF)])
 (.cond (t 30)
 (.reg [Im 31 10,Im 8 31])
 .skip))))
 (.reg [I1 32 (.bin .add (t 20) (Ki 1)),Im 20 32])))))))
 (.seq (.seq (.reg [Im 33 8,I1 34 (.bin .eql (t 33) (Ks ([])))])
 (.cond (t 34)
 (.exit 0)
 .skip))
 (.draw 0 [(Im 35 8,[]),(Ia 36 8 7,[]),(Im 37 1,[]),(I1 38 (.call (t 37) []),[Ia 36 8 7]),(Ip 39 169 [(t 35),(t 36),(t 38)],[]),(Is 8 7 39,[])]))))))))
 (.seq (.reg [Ia 40 8 7,Is 8 6 40])
 .ret))))
theorem fn103 : Fn Tryz.prog 103 41 [.inr (6,true,8)] c103:=⟨⟨_,_,Tryz.func103,rfl,by kernel_rfl,Tryz.ntmps103,by kernel_rfl,Hq1,by kernel_rfl⟩⟩
def c113 : C :=
 (.seq (.reg [I1 4 (.mv (Ki 0))])
 (.seq (.reg [Im 7 0,Ip 8 174 [(t 7)],Im 5 8])
 (.seq (.reg [Im 9 1,Ip 10 174 [(t 9)],Im 6 10])
 (.seq (.seq (.reg [Im 11 5])
 (.cond (t 11)
 (.seq (.seq (.reg [Im 12 6])
 (.cond (t 12)
 (.seq (.reg [I1 4 (.mv (Ki 0))])
 .ret)
 .skip))
 (.seq (.reg [I1 4 (.mv (k (.int .i64 (-1))))])
 .ret))
 .skip))
 (.seq (.seq (.reg [Im 13 6])
 (.cond (t 13)
 (.seq (.reg [I1 4 (.mv (Ki 1))])
 .ret)
 .skip))
 (.seq (.seq (.reg [Im 14 0,Im 15 1,I1 16 (.bin .lss (t 14) (t 15))])
 (.cond (t 16)
 (.seq (.reg [I1 4 (.mv (k (.int .i64 (-1))))])
 .ret)
 .skip))
 (.seq (.seq (.reg [Im 17 0,Im 18 1,I1 19 (.bin .gtr (t 17) (t 18))])
 (.cond (t 19)
 (.seq (.reg [I1 4 (.mv (Ki 1))])
 .ret)
 .skip))
 (.seq (.reg [I1 4 (.mv (Ki 0))])
 .ret))))))))
theorem fn113 : Fn Tryz.prog 113 20 [.inl 4] c113:=⟨⟨_,_,Tryz.func113,rfl,by kernel_rfl,Tryz.ntmps113,by kernel_rfl,Hq0,by kernel_rfl⟩⟩
def c127 : C :=
 (.seq (.reg [I1 2 (.mv KF)])
 (.seq (.reg [Im 3 0,Ip 4 134 [(t 3)],Im 5 4,Jm 6 5 true 0,I2 7 5 (.pcall (Kf 17) [(t 6)]),I2 8 5 (.un .not (t 7)),I1 9 (.pick (t 5) (t 8) KF),Im 2 9])
 .ret))
theorem fn127 : Fn Tryz.prog 127 10 [.inl 2] c127:=⟨⟨_,_,Tryz.func127,rfl,by kernel_rfl,Tryz.ntmps127,by kernel_rfl,Hq0,by kernel_rfl⟩⟩
def c145 : C :=
 (.seq (.reg [I1 2 (.mv KF)])
 (.seq (.reg [Im 3 0,I1 4 (.bin .neq (t 3) (k (.int .u8 10))),Im 2 4])
 .ret))
theorem fn145 : Fn Tryz.prog 145 5 [.inl 2] c145:=⟨⟨_,_,Tryz.func145,rfl,by kernel_rfl,Tryz.ntmps145,by kernel_rfl,Hq0,by kernel_rfl⟩⟩
def c146 : C :=
 (.seq (.reg [I1 2 (.mv KF)])
 (.seq (.reg [Im 3 0,Ip 4 147 [(t 3)],Im 5 4,Jm 6 5 false 0,I3 7 5 (.pcall (Kf 148) [(t 6)]),I1 8 (.pick (t 5) KT (t 7)),Im 2 8])
 .ret))
theorem fn146 : Fn Tryz.prog 146 9 [.inl 2] c146:=⟨⟨_,_,Tryz.func146,rfl,by kernel_rfl,Tryz.ntmps146,by kernel_rfl,Hq0,by kernel_rfl⟩⟩
def c217 : C :=
 (.seq (.reg [I1 2 (.alloc [(.str []),(.int .i64 0),(.int .i64 0),(.str []),.nils,(.str []),(.str []),.nils])])
 (.seq (.reg [Im 3 0,Im 4 0,I1 5 (.mkfn 228 [(t 4)] []),I1 6 (.bsl 1 [(Ks ([43])),(Ks ([45]))]),Ic 7 103 [(t 3),(t 5),(t 6)],Is 8 2 7])
 .ret))
theorem fn217 : Fn Tryz.prog 217 8 [.inr (2,true,8)] c217:=⟨⟨_,_,Tryz.func217,rfl,by kernel_rfl,Tryz.ntmps217,by kernel_rfl,Hq0,by kernel_rfl⟩⟩
def c239 : C :=
 (.seq (.reg [I1 2 (.alloc [(.int .i64 0),(.int .i64 0),(.str []),.nils]),I1 3 (.mv KF)])
 (.seq (.reg [Im 5 0,Ip 6 177 [(t 5)],I1 4 (.alloc [(.int .i64 0),(.str []),(.int .i64 0)]),Is 3 4 6])
 (.seq (.block 0
 (.seq (.reg [If 8 0 4,Il 9 8,I1 10 (.bin .eql (t 9) (Ki 2)),Im 7 10])
 (.cond (t 7)
 (.seq (.reg [Im 11 0,In 12 11,If 13 1 12,Il 14 13,I1 15 (.bin .add (t 14) (Ki 1)),In 16 11,If 17 1 16,Is 1 17 15])
 (.seq (.reg [If 18 2 4,Il 19 18,Ip 20 242 [(t 19)],Is 4 2 20,I1 3 (.mv KT)])
 .ret))
 (.seq (.reg [If 22 0 4,Il 23 22,I1 24 (.bin .eql (t 23) (Ki 3)),Im 21 24])
 (.cond (t 21)
 (.seq (.reg [Im 25 0,In 26 25,If 27 1 26,Il 28 27,I1 29 (.bin .add (t 28) (Ki 1)),In 30 25,If 31 1 30,Is 1 31 29])
 (.seq (.reg [If 32 1 4,Il 33 32,Ip 34 243 [(t 33)],Is 4 2 34,I1 3 (.mv KT)])
 .ret))
 (.seq (.reg [If 36 0 4,Il 37 36,I1 38 (.bin .eql (t 37) (Ki 4)),Im 35 38])
 (.cond (t 35)
 (.seq (.reg [Im 39 0,In 40 39,If 41 1 40,Il 42 41,I1 43 (.bin .add (t 42) (Ki 1)),In 44 39,If 45 1 44,Is 1 45 43])
 (.seq (.reg [If 46 2 4,Il 47 46,I1 48 (.build [(.int .i64 0),(.int .i64 0),(.str []),.nils] [(0,1,(Ki 4)),(1,1,(t 47))]),Is 4 2 48,I1 3 (.mv KT)])
 .ret))
 (.seq (.reg [Im 50 0,Ip 51 117 [(t 50),(Ks ([116,114,117,101]))],Im 52 51,Jm 53 52 false 0,I3 54 52 (.pcall (Kf 117) [(t 53),(Ks ([102,97,108,115,101]))]),I1 55 (.pick (t 52) KT (t 54)),Im 49 55])
 (.cond (t 49)
 (.seq (.reg [Im 56 0,In 57 56,If 58 1 57,Il 59 58,I1 60 (.bin .add (t 59) (Ki 1)),In 61 56,If 62 1 61,Is 1 62 60])
 (.seq (.reg [If 63 1 4,Il 64 63,I1 65 (.bin .eql (t 64) (Ks ([116,114,117,101]))),Ip 66 244 [(t 65)],Is 4 2 66,I1 3 (.mv KT)])
 .ret))
 .skip)))))))))
 (.seq (.reg [I1 67 (.build [(.int .i64 0),(.int .i64 0),(.str []),.nils] []),Is 4 2 67,I1 3 (.mv KF)])
 .ret))))
theorem fn239 : Fn Tryz.prog 239 68 [.inr (2,true,4),.inl 3] c239:=⟨⟨_,_,Tryz.func239,rfl,by kernel_rfl,Tryz.ntmps239,by kernel_rfl,Hq0,by kernel_rfl⟩⟩
def c251 : C :=
 (.seq (.reg [I1 10 (.mv KT)])
 (.seq (.reg [I1 11 (.mv KT)])
 (.block 0
 (.loop
 (.block 1
 (.seq (.reg [Im 21 2,Im 22 1,I1 23 (.bin .sub (t 21) (t 22)),Im 12 23])
 (.seq (.seq (.reg [Im 24 12,I1 25 (.bin .leq (t 24) (Ki 12))])
 (.cond (t 25)
 (.seq (.reg [Im 26 0,Im 27 1,Im 28 2,Im 29 4,Ip 30 253 [(t 26),(t 27),(t 28),(t 29)]])
 .ret)
 .skip))
 (.seq (.seq (.reg [Im 31 3,I1 32 (.bin .eql (t 31) (Ki 0))])
 (.cond (t 32)
 (.seq (.reg [Im 33 0,Im 34 1,Im 35 2,Im 36 4,Ip 37 254 [(t 33),(t 34),(t 35),(t 36)]])
 .ret)
 .skip))
 (.seq (.seq (.reg [Im 38 10,I1 39 (.un .not (t 38))])
 (.cond (t 39)
 (.seq (.reg [Im 40 0,Im 41 1,Im 42 2,Im 43 4,Ip 44 255 [(t 40),(t 41),(t 42),(t 43)]])
 (.reg [Im 45 3,I1 46 (.bin .sub (t 45) (Ki 1)),Im 3 46]))
 .skip))
 (.seq (.reg [Im 48 0,Im 49 1,Im 50 2,Im 51 4,Ip 52 256 [(t 48),(t 49),(t 50),(t 51)],Im 47 52,Ie 53 0 47,Ie 54 1 47,Im 13 53,Im 14 54])
 (.seq (.seq (.reg [Im 55 14,I1 56 (.bin .eql (t 55) (Ki 2))])
 (.cond (t 56)
 (.seq (.reg [Im 57 0,Im 58 1,Im 59 2,Im 60 4,Ip 61 257 [(t 57),(t 58),(t 59),(t 60)]])
 (.seq (.reg [Im 62 2,I1 63 (.bin .sub (t 62) (Ki 1)),Im 64 13,Im 65 1,I1 66 (.bin .sub (t 64) (t 65)),I1 67 (.bin .sub (t 63) (t 66)),Im 13 67])
 (.reg [I1 14 (.mv (Ki 1))])))
 .skip))
 (.seq (.seq (.reg [Im 68 10,Im 69 68,Jm 70 69 true 11,I1 71 (.pick (t 69) (t 70) KF),Im 72 71,Jm 73 72 true 14,I2 74 72 (.bin .eql (t 73) (Ki 1)),I1 75 (.pick (t 72) (t 74) KF)])
 (.cond (t 75)
 (.seq (.reg [Im 76 0,Im 77 1,Im 78 2,Im 79 4,Ip 80 258 [(t 76),(t 77),(t 78),(t 79)]])
 (.cond (t 80)
 .ret
 .skip))
 .skip))
 (.seq (.seq (.draw 0 [(Im 81 1,[]),(I1 82 (.bin .gtr (t 81) (Ki 0)),[]),(Im 83 82,[]),(Jm 84 83 true 4,[]),(Jm 85 83 true 0,[]),(Jm 86 83 true 1,[]),(I2 87 83 (.bin .sub (t 86) (Ki 1)),[]),(I2 88 83 (.iaddr 4 (t 85) (t 87)),[]),(I2 89 83 (.load true 4 (t 88)),[]),(Jm 90 83 true 0,[]),(Jm 91 83 true 13,[]),(I2 92 83 (.iaddr 4 (t 90) (t 91)),[]),(I2 93 83 (.load true 4 (t 92)),[]),(I2 94 83 (.pcall (t 84) [(t 89),(t 93)]),[]),(I2 95 83 (.bin .lss (t 94) (Ki 0)),[]),(I2 96 83 (.un .not (t 95)),[]),(I1 97 (.pick (t 83) (t 96) KF),[])])
 (.cond (t 97)
 (.seq (.reg [Im 98 0,Im 99 1,Im 100 2,Im 101 13,Im 102 4,Ip 103 259 [(t 98),(t 99),(t 100),(t 101),(t 102)],Im 15 103])
 (.seq (.reg [Im 104 15,Im 1 104])
 (.exit 1)))
 .skip))
 (.seq (.reg [Im 106 0,Im 107 1,Im 108 2,Im 109 13,Im 110 4,Ip 111 260 [(t 106),(t 107),(t 108),(t 109),(t 110)],Im 105 111,Ie 112 0 105,Ie 113 1 105,Im 16 112,Im 17 113])
 (.seq (.reg [Im 114 17,Im 11 114])
 (.seq (.reg [Im 115 16,Im 116 1,I1 117 (.bin .sub (t 115) (t 116)),Im 118 2,Im 119 16,I1 120 (.bin .sub (t 118) (t 119)),Im 18 117,Im 19 120])
 (.seq (.reg [Im 121 12,I1 122 (.bin .quo (t 121) (Ki 8)),Im 20 122])
 (.seq (.reg [Im 123 18,Im 124 19,I1 125 (.bin .lss (t 123) (t 124))])
 (.cond (t 125)
 (.seq (.reg [Im 126 18,Im 127 20,I1 128 (.bin .geq (t 126) (t 127)),Im 10 128])
 (.seq (.reg [Im 129 0,Im 130 1,Im 131 16,Im 132 3,Im 133 4,Ip 134 251 [(t 129),(t 130),(t 131),(t 132),(t 133)]])
 (.reg [Im 135 16,I1 136 (.bin .add (t 135) (Ki 1)),Im 1 136])))
 (.seq (.reg [Im 137 19,Im 138 20,I1 139 (.bin .geq (t 137) (t 138)),Im 10 139])
 (.seq (.reg [Im 140 0,Im 141 16,I1 142 (.bin .add (t 141) (Ki 1)),Im 143 2,Im 144 3,Im 145 4,Ip 146 251 [(t 140),(t 142),(t 143),(t 144),(t 145)]])
 (.reg [Im 147 16,Im 2 147]))))))))))))))))))))))
theorem fn251 : Fn Tryz.prog 251 148 [] c251:=⟨⟨_,_,Tryz.func251,rfl,by kernel_rfl,Tryz.ntmps251,by kernel_rfl,Hq0,by kernel_rfl⟩⟩
end GP
namespace GP
open Go Go.Proofs
open Rd O
set_option maxRecDepth 100000
def c19 : C :=
 (.seq (.reg [I1 2 (.alloc [(.str []),(.int .i64 0),(.int .i64 0),(.str []),.nils,(.str []),(.str []),.nils]),I1 3 (.mv (Ki 0)),I1 4 (.mv (Ki 0))])
 (.seq (.seq (.reg [Im 9 0,Iz 10 9,I1 11 (.bin .gtr (t 10) (Ki 600))])
 (.cond (t 11)
 (.seq (.reg [I1 12 (.build [(.str []),(.int .i64 0),(.int .i64 0),(.str []),.nils,(.str []),(.str []),.nils] []),Is 8 2 12,I1 3 (.mv (Ki 0)),I1 4 (.mv (Ki 13))])
 .ret)
 .skip))
 (.seq (.reg [Im 13 0,I1 14 (.build [.nils,(.int .i64 0),(.int .i64 0)] [(0,1,(t 13))]),I1 15 (.box (t 14)),Im 5 15])
 (.seq (.reg [Im 16 5,Ic 17 49 [(t 16)],I1 6 (.alloc [(.str []),(.int .i64 0),(.int .i64 0),(.str []),.nils,(.str []),(.str []),.nils]),Is 8 6 17])
 (.seq (.reg [Im 19 5,Ic 20 50 [(t 19)],Im 18 20,Ie 21 0 18,Ie 22 1 18,Im 7 21,Im 8 22])
 (.seq (.block 0
 (.seq (.reg [Im 24 8,I1 25 (.bin .neq (t 24) (Ki 0)),Im 23 25])
 (.cond (t 23)
 (.seq (.reg [I1 26 (.build [(.str []),(.int .i64 0),(.int .i64 0),(.str []),.nils,(.str []),(.str []),.nils] []),Im 27 7,Im 28 8,Is 8 2 26,Im 3 27,Im 4 28])
 .ret)
 (.seq (.reg [Ia 30 8 6,Ip 31 26 [(t 30)],I1 32 (.bin .gtr (t 31) (Ki 12)),Im 29 32])
 (.cond (t 29)
 (.seq (.reg [I1 33 (.build [(.str []),(.int .i64 0),(.int .i64 0),(.str []),.nils,(.str []),(.str []),.nils] []),Is 8 2 33,I1 3 (.mv (Ki 0)),I1 4 (.mv (Ki 11))])
 .ret)
 .skip)))))
 (.seq (.reg [Ia 34 8 6,Is 8 2 34,I1 3 (.mv (Ki 0)),I1 4 (.mv (Ki 0))])
 .ret)))))))
theorem fn19 : Fn Tryz.prog 19 35 [.inr (2,true,8),.inl 3,.inl 4] c19:=⟨⟨_,_,Tryz.func19,rfl,by kernel_rfl,Tryz.ntmps19,by kernel_rfl,Hq0,by kernel_rfl⟩⟩
def c78 : C :=
 (.seq (.reg [I1 1 (.box (t 0)),I1 2 (.mv KF)])
 (.seq (.block 0
 (.seq (.reg [Ia 4 4 1,Ip 5 129 [(t 4)],I1 6 (.un .not (t 5)),Im 3 6])
 (.cond (t 3)
 (.seq (.reg [I1 2 (.mv KF)])
 .ret)
 (.seq (.reg [If 8 0 1,Il 9 8,I1 10 (.bin .neq (t 9) (Ki 5)),Im 7 10])
 (.cond (t 7)
 (.seq (.reg [Ia 11 4 1,Ip 12 130 [(t 11),(Ki 0)],Im 2 12])
 .ret)
 .skip)))))
 (.seq (.reg [If 13 3 1,Il 14 13,Iz 15 14,I1 16 (.bin .gtr (t 15) (Ki 0)),Im 17 16,Jf 18 17 true 3 1,Jl 19 17 true 18,I2 20 17 (.pcall (Kf 131) [(t 19),(Kf 132)]),I2 21 17 (.un .not (t 20)),I1 22 (.pick (t 17) (t 21) KF),Im 2 22])
 .ret)))
theorem fn78 : Fn Tryz.prog 78 23 [.inl 2] c78:=⟨⟨_,_,Tryz.func78,rfl,by kernel_rfl,Tryz.ntmps78,by kernel_rfl,Hq0,by kernel_rfl⟩⟩
def c116 : C :=
 (.seq (.reg [I1 6 (.mv (Ki 0))])
 (.seq (.seq (.reg [Im 11 0,Iz 12 11,I1 13 (.mv (Ki 0))])
 (.block 0
 (.loop
 (.seq (.reg [I1 14 (.bin .lss (t 13) (t 12))])
 (.seq (.cond (t 14)
 .skip
 (.exit 0))
 (.seq (.block 1
 (.seq (.reg [Im 15 13,I1 16 (.iaddr 4 (t 11) (t 13)),Ia 17 4 16,I1 8 (.alloc [(.int .i64 0),(.int .i64 0),(.str []),.nils]),Im 7 15,Is 4 8 17])
 (.seq (.seq (.reg [Im 18 7,Im 19 1,Iz 20 19,I1 21 (.bin .geq (t 18) (t 20))])
 (.cond (t 21)
 (.seq (.reg [I1 6 (.mv (Ki 1))])
 .ret)
 .skip))
 (.seq (.reg [Im 22 1,Im 23 7,I1 24 (.iaddr 4 (t 22) (t 23)),Ia 25 4 24,I1 9 (.alloc [(.int .i64 0),(.int .i64 0),(.str []),.nils]),Is 4 9 25])
 (.seq (.reg [Im 26 2,Ia 27 4 8,Ia 28 4 9,I1 29 (.pcall (t 26) [(t 27),(t 28)]),Im 10 29])
 (.seq (.reg [Im 30 10,I1 31 (.bin .neq (t 30) (Ki 0))])
 (.cond (t 31)
 (.seq (.reg [Im 32 10,Im 6 32])
 .ret)
 .skip)))))))
 (.reg [I1 33 (.bin .add (t 13) (Ki 1)),Im 13 33])))))))
 (.seq (.seq (.reg [Im 34 0,Iz 35 34,Im 36 1,Iz 37 36,I1 38 (.bin .lss (t 35) (t 37))])
 (.cond (t 38)
 (.seq (.reg [I1 6 (.mv (k (.int .i64 (-1))))])
 .ret)
 .skip))
 (.seq (.reg [I1 6 (.mv (Ki 0))])
 .ret))))
theorem fn116 : Fn Tryz.prog 116 39 [.inl 6] c116:=⟨⟨_,_,Tryz.func116,rfl,by kernel_rfl,Tryz.ntmps116,by kernel_rfl,Hq0,by kernel_rfl⟩⟩
def c129 : C :=
 (.seq (.reg [I1 1 (.box (t 0)),I1 2 (.mv KF)])
 (.seq (.seq (.reg [If 5 0 1,Il 6 5,I1 7 (.bin .neq (t 6) (Ki 5))])
 (.cond (t 7)
 (.seq (.reg [Ia 8 4 1,Ip 9 179 [(t 8)],Im 2 9])
 .ret)
 .skip))
 (.seq (.seq (.reg [If 10 3 1,Il 11 10,Iz 12 11,I1 13 (.mv (Ki 0))])
 (.block 0
 (.loop
 (.seq (.reg [I1 14 (.bin .lss (t 13) (t 12))])
 (.seq (.cond (t 14)
 .skip
 (.exit 0))
 (.seq (.block 1
 (.seq (.reg [Im 15 13,I1 16 (.iaddr 4 (t 11) (t 13)),Ia 17 4 16,I1 4 (.alloc [(.int .i64 0),(.int .i64 0),(.str []),.nils]),Im 3 15,Is 4 4 17])
 (.seq (.draw 0 [(Ia 18 4 4,[]),(Ip 19 179 [(t 18)],[]),(I1 20 (.un .not (t 19)),[]),(Im 21 20,[]),(Jf 22 21 false 0 4,[]),(Jl 23 21 false 22,[]),(I3 24 21 (.bin .eql (t 23) (Ki 0)),[]),(I1 25 (.pick (t 21) KT (t 24)),[]),(Im 26 25,[]),(Jf 27 26 false 0 4,[]),(Jl 28 26 false 27,[]),(Jf 29 26 false 3 1,[]),(Jl 30 26 false 29,[]),(I3 31 26 (.iaddr 4 (t 30) (Ki 0)),[]),(Jf 32 26 false 0 31,[]),(Jl 33 26 false 32,[]),(I3 34 26 (.bin .neq (t 28) (t 33)),[]),(I1 35 (.pick (t 26) KT (t 34)),[]),(Im 36 35,[]),(Jm 37 36 false 3,[]),(I3 38 36 (.bin .gtr (t 37) (Ki 0)),[]),(Jm 39 36 false 38,[]),(Jf 40 39 true 3 1,[]),(Jl 41 39 true 40,[]),(Jm 42 39 true 3,[]),(I2 43 39 (.bin .sub (t 42) (Ki 1)),[]),(I2 44 39 (.iaddr 4 (t 41) (t 43)),[]),(I2 45 39 (.load true 4 (t 44)),[]),(I2 46 39 (.load true 4 (t 4)),[]),(I2 47 39 (.pcall (Kf 64) [(t 45),(t 46)]),[]),(I2 48 39 (.bin .geq (t 47) (Ki 0)),[]),(I3 49 36 (.pick (t 39) (t 48) KF),[]),(I1 50 (.pick (t 36) KT (t 49)),[])])
 (.cond (t 50)
 (.seq (.reg [I1 2 (.mv KF)])
 .ret)
 .skip))))
 (.reg [I1 51 (.bin .add (t 13) (Ki 1)),Im 13 51])))))))
 (.seq (.reg [If 52 1 1,Il 53 52,I1 54 (.bin .eql (t 53) (Ki 0)),Im 55 54,Jf 56 55 true 2 1,Jl 57 55 true 56,I2 58 55 (.bin .eql (t 57) (Ks ([]))),I1 59 (.pick (t 55) (t 58) KF),Im 60 59,Jf 61 60 true 3 1,Jl 62 60 true 61,I2 63 60 (.len (t 62)),I2 64 60 (.bin .leq (t 63) (Ki 16)),I1 65 (.pick (t 60) (t 64) KF),Im 2 65])
 .ret))))
theorem fn129 : Fn Tryz.prog 129 66 [.inl 2] c129:=⟨⟨_,_,Tryz.func129,rfl,by kernel_rfl,Tryz.ntmps129,by kernel_rfl,Hq0,by kernel_rfl⟩⟩
def c131 : C :=
 (.seq (.reg [I1 4 (.mv KF)])
 (.seq (.reg [Im 5 0,Im 6 1,Ip 7 180 [(t 5),(t 6)],I1 8 (.bin .geq (t 7) (Ki 0)),Im 4 8])
 .ret))
theorem fn131 : Fn Tryz.prog 131 9 [.inl 4] c131:=⟨⟨_,_,Tryz.func131,rfl,by kernel_rfl,Tryz.ntmps131,by kernel_rfl,Hq0,by kernel_rfl⟩⟩
def c134 : C :=
 (.seq (.reg [I1 2 (.mv KF)])
 (.seq (.reg [Im 3 0,I1 4 (.build [(.int .i64 0),(.str []),(.int .i64 0)] [(0,1,(Ki 1)),(1,1,(t 3))]),Ip 5 166 [(t 4)],Im 2 5])
 .ret))
theorem fn134 : Fn Tryz.prog 134 6 [.inl 2] c134:=⟨⟨_,_,Tryz.func134,rfl,by kernel_rfl,Tryz.ntmps134,by kernel_rfl,Hq0,by kernel_rfl⟩⟩
def c147 : C :=
 (.seq (.reg [I1 2 (.mv KF)])
 (.seq (.reg [Im 3 0,I1 4 (.bin .geq (t 3) (k (.int .u8 97))),Im 5 4,Jm 6 5 true 0,I2 7 5 (.bin .leq (t 6) (k (.int .u8 122))),I1 8 (.pick (t 5) (t 7) KF),Im 9 8,Jm 10 9 false 0,I3 11 9 (.bin .eql (t 10) (k (.int .u8 95))),I1 12 (.pick (t 9) KT (t 11)),Im 2 12])
 .ret))
theorem fn147 : Fn Tryz.prog 147 13 [.inl 2] c147:=⟨⟨_,_,Tryz.func147,rfl,by kernel_rfl,Tryz.ntmps147,by kernel_rfl,Hq0,by kernel_rfl⟩⟩
def c148 : C :=
 (.seq (.reg [I1 2 (.mv KF)])
 (.seq (.reg [Im 3 0,I1 4 (.bin .geq (t 3) (k (.int .u8 48))),Im 5 4,Jm 6 5 true 0,I2 7 5 (.bin .leq (t 6) (k (.int .u8 57))),I1 8 (.pick (t 5) (t 7) KF),Im 2 8])
 .ret))
theorem fn148 : Fn Tryz.prog 148 9 [.inl 2] c148:=⟨⟨_,_,Tryz.func148,rfl,by kernel_rfl,Tryz.ntmps148,by kernel_rfl,Hq0,by kernel_rfl⟩⟩
def c174 : C :=
 (.seq (.reg [I1 2 (.mv KF)])
 (.seq (.reg [Im 3 0,Im 4 0,I1 5 (.bin .neq (t 3) (t 4)),Im 2 5])
 .ret))
theorem fn174 : Fn Tryz.prog 174 6 [.inl 2] c174:=⟨⟨_,_,Tryz.func174,rfl,by kernel_rfl,Tryz.ntmps174,by kernel_rfl,Hq0,by kernel_rfl⟩⟩
def c180 : C :=
 (.seq (.reg [I1 4 (.mv (Ki 0))])
 (.seq (.seq (.reg [Im 6 0,Iz 7 6,I1 8 (.mv (Ki 0))])
 (.block 0
 (.loop
 (.seq (.reg [I1 9 (.bin .lss (t 8) (t 7))])
 (.seq (.cond (t 9)
 .skip
 (.exit 0))
 (.seq (.block 1
 (.seq (.reg [Im 10 8,Im 5 10])
 (.seq (.reg [Im 11 1,Im 12 0,Im 13 5,I1 14 (.iaddr 4 (t 12) (t 13)),Ia 15 4 14,I1 16 (.pcall (t 11) [(t 15)])])
 (.cond (t 16)
 (.seq (.reg [Im 17 5,Im 4 17])
 .ret)
 .skip))))
 (.reg [I1 18 (.bin .add (t 8) (Ki 1)),Im 8 18])))))))
 (.seq (.reg [I1 4 (.mv (k (.int .i64 (-1))))])
 .ret)))
theorem fn180 : Fn Tryz.prog 180 19 [.inl 4] c180:=⟨⟨_,_,Tryz.func180,rfl,by kernel_rfl,Tryz.ntmps180,by kernel_rfl,Hq0,by kernel_rfl⟩⟩
def c202 : C :=
 (.seq (.reg [I1 2 (.alloc [(.str []),(.int .i64 0),(.int .i64 0),(.str []),.nils,(.str []),(.str []),.nils])])
 (.seq (.reg [Im 6 0,Ic 7 217 [(t 6)],I1 3 (.alloc [(.str []),(.int .i64 0),(.int .i64 0),(.str []),.nils,(.str []),(.str []),.nils]),Is 8 3 7])
 (.seq (.seq (.reg [I1 8 (.bsl 1 [(Ks ([61,61])),(Ks ([33,61])),(Ks ([60])),(Ks ([60,61])),(Ks ([62])),(Ks ([62,61])),(Ks ([105,110]))]),Iz 9 8,I1 10 (.mv (Ki 0))])
 (.block 0
 (.loop
 (.seq (.reg [I1 11 (.bin .lss (t 10) (t 9))])
 (.seq (.cond (t 11)
 .skip
 (.exit 0))
 (.seq (.block 1
 (.seq (.reg [I1 12 (.iaddr 1 (t 8) (t 10)),Il 13 12,Im 5 13])
 (.seq (.reg [Im 14 0,Im 15 5,Ic 16 69 [(t 14),(t 15)]])
 (.cond (t 16)
 (.seq (.draw 0 [(Im 17 5,[]),(Ia 18 8 3,[]),(Im 19 0,[]),(Ic 20 217 [(t 19)],[Ia 18 8 3]),(Ip 21 169 [(t 17),(t 18),(t 20)],[]),(Is 8 2 21,[])])
 .ret)
 .skip))))
 (.reg [I1 22 (.bin .add (t 10) (Ki 1)),Im 10 22])))))))
 (.seq (.reg [Ia 23 8 3,Is 8 2 23])
 .ret))))
theorem fn202 : Fn Tryz.prog 202 24 [.inr (2,true,8)] c202:=⟨⟨_,_,Tryz.func202,rfl,by kernel_rfl,Tryz.ntmps202,by kernel_rfl,Hq0,by kernel_rfl⟩⟩
def c238 : C :=
 (.seq (.reg [I1 2 (.alloc [(.str []),(.int .i64 0),(.int .i64 0),(.str []),.nils,(.str []),(.str []),.nils])])
 (.seq (.reg [Im 11 0,In 12 11,If 13 1 12,Il 14 13,Im 3 14])
 (.seq (.seq (.reg [Im 16 0,Ic 17 239 [(t 16)],Im 15 17,Ie 18 0 15,Ie 19 1 15,I1 4 (.alloc [(.int .i64 0),(.int .i64 0),(.str []),.nils]),Is 4 4 18,Im 5 19])
 (.seq (.reg [Im 20 5])
 (.cond (t 20)
 (.seq (.reg [Ia 21 4 4,I1 22 (.build [(.str []),(.int .i64 0),(.int .i64 0),(.str []),.nils,(.str []),(.str []),.nils] [(0,1,(Ks ([118,97,108,117,101]))),(1,4,(t 21))]),Is 8 2 22])
 .ret)
 .skip)))
 (.seq (.block 0
 (.seq (.reg [Im 24 0,Ic 25 69 [(t 24),(Ks ([110,111,119]))],Im 23 25])
 (.cond (t 23)
 (.seq (.reg [I1 26 (.build [(.str []),(.int .i64 0),(.int .i64 0),(.str []),.nils,(.str []),(.str []),.nils] [(0,1,(Ks ([110,111,119])))]),Is 8 2 26])
 .ret)
 (.seq (.reg [Im 28 0,Ip 29 117 [(t 28),(Ks ([40]))],Im 27 29])
 (.cond (t 27)
 (.seq (.reg [Im 30 0,Ic 31 240 [(t 30)],Is 8 2 31])
 .ret)
 (.seq (.reg [Im 33 0,Ic 34 69 [(t 33),(Ks ([91]))],Im 32 34])
 (.cond (t 32)
 (.seq (.reg [Im 35 0,Im 36 3,Ic 37 241 [(t 35),(t 36)],Is 8 2 37])
 .ret)
 (.seq (.reg [Im 39 0,Ic 40 69 [(t 39),(Ks ([115,105,122,101]))],Im 38 40])
 (.cond (t 38)
 (.seq (.reg [Im 41 0,Ic 42 240 [(t 41)],I1 43 (.bsl 8 [(t 42)]),I1 44 (.build [(.str []),(.int .i64 0),(.int .i64 0),(.str []),.nils,(.str []),(.str []),.nils] [(0,1,(Ks ([115,105,122,101]))),(7,1,(t 43))]),Is 8 2 44])
 .ret)
 (.seq (.reg [Im 46 0,Ic 47 69 [(t 46),(Ks ([114,111,108,101]))],Im 45 47])
 (.cond (t 45)
 (.seq (.reg [Im 48 0,Ic 49 71 [(t 48),(Ks ([40]))]])
 (.seq (.reg [Im 50 0,Ic 51 120 [(t 50),(Ki 3)],I1 52 (.field false 1 1 (t 51)),I1 53 (.build [(.str []),(.int .i64 0),(.int .i64 0),(.str []),.nils,(.str []),(.str []),.nils] [(0,1,(Ks ([114,111,108,101]))),(6,1,(t 52))]),I1 6 (.alloc [(.str []),(.int .i64 0),(.int .i64 0),(.str []),.nils,(.str []),(.str []),.nils]),Is 8 6 53])
 (.seq (.reg [Im 54 0,Ic 55 71 [(t 54),(Ks ([41]))]])
 (.seq (.reg [Ia 56 8 6,Is 8 2 56])
 .ret))))
 (.seq (.reg [Im 58 0,Ic 59 69 [(t 58),(Ks ([104,97,115]))],Im 57 59])
 (.cond (t 57)
 (.seq (.reg [Im 60 0,Ic 61 71 [(t 60),(Ks ([40]))]])
 (.seq (.reg [Im 63 0,Ic 64 118 [(t 63)],Im 62 64,Ie 65 0 62,Ie 66 1 62,Im 7 65,Im 8 66])
 (.seq (.reg [Im 67 0,Ic 68 71 [(t 67),(Ks ([41]))]])
 (.seq (.reg [Im 69 7,Im 70 8,I1 71 (.build [(.str []),(.int .i64 0),(.int .i64 0),(.str []),.nils,(.str []),(.str []),.nils] [(0,1,(Ks ([104,97,115]))),(5,1,(t 69)),(6,1,(t 70))]),Is 8 2 71])
 .ret))))
 .skip)))))))))))))
 (.seq (.reg [Im 73 0,Ic 74 118 [(t 73)],Im 72 74,Ie 75 0 72,Ie 76 1 72,Im 9 75,Im 10 76])
 (.seq (.reg [Im 77 9,Im 78 10,I1 79 (.build [(.str []),(.int .i64 0),(.int .i64 0),(.str []),.nils,(.str []),(.str []),.nils] [(0,1,(Ks ([97,116,116,114]))),(5,1,(t 77)),(6,1,(t 78))]),Is 8 2 79])
 .ret))))))
theorem fn238 : Fn Tryz.prog 238 80 [.inr (2,true,8)] c238:=⟨⟨_,_,Tryz.func238,rfl,by kernel_rfl,Tryz.ntmps238,by kernel_rfl,Hq0,by kernel_rfl⟩⟩
def c247 : C :=
 (.seq (.reg [I1 2 (.mv KN)])
 (.seq (.seq (.reg [Im 3 0,I1 4 (.eq1 .slc false (t 3) KN)])
 (.cond (t 4)
 (.seq (.reg [I1 2 (.mv KN)])
 .ret)
 .skip))
 (.seq (.reg [I1 5 (.bslm true 4 []),Im 6 0,I1 7 (.appm true false 4 56 (t 5) (t 6)),Im 2 7])
 .ret)))
theorem fn247 : Fn Tryz.prog 247 8 [.inl 2] c247:=⟨⟨_,_,Tryz.func247,rfl,by kernel_rfl,Tryz.ntmps247,by kernel_rfl,Hq1,by kernel_rfl⟩⟩
end GP
namespace GP
open Go Go.Proofs
open Rd O
set_option maxRecDepth 100000
def c176 : C :=
 (.seq (.reg [I1 4 (.mv (Ki 0))])
 (.seq (.reg [Im 5 0,Im 6 1,Ip 7 205 [(t 5),(t 6)],Im 4 7])
 .ret))
theorem fn176 : Fn Tryz.prog 176 8 [.inl 4] c176:=⟨⟨_,_,Tryz.func176,rfl,by kernel_rfl,Tryz.ntmps176,by kernel_rfl,Hq0,by kernel_rfl⟩⟩
end GP
namespace GP
open Go Go.Proofs
theorem gPow : Tryz.prog.globalNamed "internal/strconv.uint64pow10" = some 1 := by kernel_rfl
def Vars (c : Cx) (w : World) : Prop := c.bb.1 = false /\ 2 <= c.B /\ Lib.TabIs Tryz.prog w "internal/strconv.uint64pow10" .u64 Lib.pow10Tab
theorem Vars.mono {c c' : Cx} {w w' : World} (hle : c.le c') (hb : Below c.bb w w') (h : Vars c w) : Vars c' w':=by
 obtain ⟨h0,h1,h2⟩:=h
 refine ⟨by rw [hle.B];exact h0,by show 2 <= c'.bb.2;rw [hle.B];exact h1,?_⟩
 ·unfold Lib.TabIs World.var? at h2 ⊢
  rw [gPow] at h2 ⊢
  simp only [Option.bind_some] at h2 ⊢
  rw [hb.block 1 (by have h1' : 2 <= c.bb.2:=h1;omega)];exact h2
instance hasG : HasG Tryz.prog:=⟨Vars,Vars.mono⟩
end GP
namespace GP
open Go
theorem tf (b : Bool) : b = true ∨ b = false:=by cases b <;> simp
theorem flatD_cons (x : D) (xs : List D) : flatD (x :: xs) = x.cells ++ flatD xs:=by simp [flatD]
theorem flatD_append (xs ys : List D) : flatD (xs ++ ys) = flatD xs ++ flatD ys:=by simp [flatD]
def isAg (sz : Nat) (xs : List D) : Prop:=∀ x ∈ xs,∃ l,x = .agg l /\ l.length = sz
theorem isAg.len {sz : Nat} {xs : List D} (h : isAg sz xs) : ∀ x ∈ xs,x.cells.length = sz:=fun x hx=>by
 obtain ⟨l,rfl,hl⟩:=h x hx;exact hl
theorem isAg.fit {sz : Nat} {xs : List D} (h : isAg sz xs) : xs.all (fit sz) = true:=List.all_eq_true.2 fun x hx=>by
 obtain ⟨l,rfl,hl⟩:=h x hx;simp [GP.fit,D.okc,D.cells,hl]
theorem isAg.flat {sz : Nat} {xs : List D} (h : isAg sz xs) : (flatD xs).length = xs.length * sz:=flatD_len h.len
theorem isAg.sub {sz : Nat} {xs ys : List D} (h : isAg sz xs) (k : ∀ y ∈ ys,y ∈ xs) : isAg sz ys:=fun y hy=>h y (k y hy)
theorem isAg.set {sz : Nat} {xs : List D} (h : isAg sz xs) {x : D} (hx : ∃ l,x = .agg l /\ l.length = sz) (i : Nat) : isAg sz (xs.set i x):=fun y hy=>by
 rcases List.mem_or_eq_of_mem_set hy with h' | rfl
 ·exact h y h'
 ·exact hx
theorem flatD_drop {sz : Nat} : ∀ (xs : List D) (i : Nat),(∀ x ∈ xs,x.cells.length = sz) -> (flatD xs).drop (i * sz) = flatD (xs.drop i)
 | [],i,_=>by simp [flatD]
 | x :: xs,0,_=>by simp
 | x :: xs,i + 1,h=>by
  rw [flatD_cons,List.drop_succ_cons,← flatD_drop xs i (fun y hy=>h y (by simp [hy])),show (i + 1) * sz = x.cells.length + i * sz by rw [h x (by simp)];rw [Nat.add_mul];omega,← List.drop_drop,List.drop_left]
theorem flatD_take {sz : Nat} : ∀ (xs : List D) (i : Nat),(∀ x ∈ xs,x.cells.length = sz) -> (flatD xs).take (i * sz) = flatD (xs.take i)
 | [],i,_=>by simp [flatD]
 | x :: xs,0,_=>by simp [flatD]
 | x :: xs,i + 1,h=>by
  rw [flatD_cons,List.take_succ_cons,flatD_cons,← flatD_take xs i (fun y hy=>h y (by simp [hy])),show (i + 1) * sz = x.cells.length + i * sz by rw [h x (by simp)];rw [Nat.add_mul];omega,List.take_length_add_append]
theorem chunk_flat {sz : Nat} : ∀ (xs : List D) (rest : List D),isAg sz xs -> chunk true sz xs.length (flatD xs ++ rest) = xs
 | [],_,_=>rfl
 | x :: xs,rest,h=>by
  obtain ⟨l,rfl,hl⟩:=h x (by simp)
  simp only [List.length_cons,chunk,if_true,flatD_cons,D.cells,List.append_assoc]
  rw [List.take_left' hl,List.drop_left' hl,chunk_flat xs rest (h.sub fun y hy=>by simp [hy])]
theorem rd_ms {sz : Nat} {xs rest : List D} {H : Hp} {o i off : Nat} {x : D} (ho : H[o]? = some (.row (flatD xs ++ rest))) (h : isAg sz xs) (hx : xs[i]? = some x) (hoff : off = i * sz) : ld true sz (rdAt H (.ptr o off)) = some x:=by
 subst hoff
 have hi : i < xs.length:=by
  rcases Nat.lt_or_ge i xs.length with h' | h'
  ·exact h'
  ·rw [List.getElem?_eq_none h'] at hx;cases hx
 obtain ⟨l,rfl,hl⟩:=h x (List.mem_of_getElem? hx)
 have hd : (flatD xs ++ rest).drop (i * sz) = l ++ (flatD (xs.drop (i + 1)) ++ rest):=by
  rw [List.drop_append_of_le_length (by rw [h.flat];exact Nat.mul_le_mul_right _ (by omega)),flatD_drop xs i h.len]
  have : xs.drop i = xs[i] :: xs.drop (i + 1):=List.drop_eq_getElem_cons hi
  rw [this,flatD_cons]
  have : xs[i] = .agg l:=by rw [List.getElem?_eq_getElem hi] at hx;injection hx
  rw [this];simp [D.cells]
 simp only [rdAt,ho,hd,ld,if_true]
 rw [if_pos (by simp [hl]),List.take_left' hl]
theorem st_ms {sz : Nat} {xs rest : List D} {H : Hp} {t : Nat -> D} {T : Tk} {o i off : Nat} {x : D} {K : D -> S -> Prop} (ho : H[o]? = some (.row (flatD xs ++ rest))) (h : isAg sz xs) (hx : ∃ l,x = .agg l /\ l.length = sz) (hi : i < xs.length) (hoff : off = i * sz)
  (k : K .top ⟨t,H.set o (.row (flatD (xs.set i x) ++ rest)),T⟩) : storeK sz K ⟨t,H,T⟩ (.ptr o off) x:=by
 subst hoff
 obtain ⟨l,rfl,hl⟩:=hx
 have hle : i * sz + sz <= xs.length * sz:=by
  have:=Nat.mul_le_mul_right sz (show i + 1 <= xs.length from hi)
  rwa [Nat.add_mul,Nat.one_mul] at this
 simp only [storeK,ho]
 refine ⟨rfl,hl,by simp [h.flat];omega,?_⟩
 have e : (flatD xs ++ rest).take (i * sz) ++ D.cells (.agg l) ++ (flatD xs ++ rest).drop (i * sz + sz) = flatD (xs.set i (.agg l)) ++ rest:=by
  rw [List.take_append_of_le_length (by rw [h.flat];omega),List.drop_append_of_le_length (by rw [h.flat];omega),flatD_take xs i h.len,
   show i * sz + sz = (i + 1) * sz by rw [Nat.add_mul];omega,flatD_drop xs (i + 1) h.len,List.set_eq_take_append_cons_drop,if_pos hi,flatD_append,flatD_cons]
  simp
 rw [e];exact k
theorem ia_msN {ag : Bool} {sz o off n cap i : Nat} {k : IntKind} (h : i < n) : ia sz (.ms ag sz o off n cap) (.int k (i : Nat)) = some (.ptr o (off + i * sz)):=by
 have e : ((i : Nat) : Int).toNat = i:=by omega
 simp only [ia]
 rw [if_pos (by refine ⟨by omega,by omega,?_⟩;trivial),e]
theorem slc_msN {ag : Bool} {sz o off n cap l h : Nat} (h1 : l <= h) (h2 : h <= n) (h3 : l < cap) : slc sz (some ((l : Nat) : Int)) (some ((h : Nat) : Int)) (.ms ag sz o off n cap) = some (.ms ag sz o (off + l * sz) (h - l) (cap - l)):=by
 have e1 : ((l : Nat) : Int).toNat = l:=by omega
 have e2 : (((h : Nat) : Int) - ((l : Nat) : Int)).toNat = h - l:=by omega
 simp only [slc]
 rw [if_pos (by refine ⟨by omega,by omega,by omega,by omega,?_⟩;trivial),e1,e2]
theorem slc_ms0 {ag : Bool} {sz o off n cap h : Nat} (h2 : h <= n) (h3 : 0 < cap) : slc sz (some (0 : Int)) (some ((h : Nat) : Int)) (.ms ag sz o off n cap) = some (.ms ag sz o off h cap):=by
 have:=slc_msN (ag:=ag) (sz:=sz) (o:=o) (off:=off) (n:=n) (cap:=cap) (l:=0) (h:=h) (by omega) h2 h3
 simpa using this
theorem clr_ms {sz : Nat} {z xs rest : List D} {H : Hp} {t : Nat -> D} {T : Tk} {o q n cap off : Nat} {ag : Bool} {K : D -> S -> Prop} (ho : H[o]? = some (.row (flatD xs ++ rest))) (h : isAg sz xs) (hz : z.length = sz) (hq : q + n = xs.length) (hoff : off = q * sz)
  (k : ∀ rest',K (.tup []) ⟨t,H.set o (.row (flatD (xs.take q) ++ rest')),T⟩) : clrK z K ⟨t,H,T⟩ (.ms ag sz o off n cap):=by
 subst hoff
 have hle : q * sz + n * sz = xs.length * sz:=by rw [<- hq,Nat.add_mul]
 simp only [clrK,ho]
 refine ⟨hz.symm,by simp [h.flat];omega,?_⟩
 rw [List.take_append_of_le_length (by rw [h.flat];omega),flatD_take xs q h.len,List.append_assoc]
 exact k _
end GP
namespace GP
open Go Go.Proofs
set_option maxRecDepth 100000
theorem wrapD (a : Int) : IntKind.i64.wrap a = if a % 2 ^ 64 ≥ 2 ^ 63 then a % 2 ^ 64 - 2 ^ 64 else a % 2 ^ 64:=by simp [IntKind.wrap,IntKind.bits,IntKind.signed]
theorem wrap_in {a : Int} (h1 : -(2 ^ 63) <= a) (h2 : a < 2 ^ 63) : IntKind.i64.wrap a = a:=by rw [wrapD];split <;> omega
theorem wrap_su (n : Nat) (h : n < 2 ^ 61) : IntKind.i64.wrap ((n : Int) + 1) = ((n + 1 : Nat) : Int):=by rw [wrap_in (by omega) (by omega)];rfl
theorem ixs_s (l : List UInt8) (k : IntKind) (n : Int) : ixs (.str l) (.int k n) = if 0 <= n then (l[n.toNat]?).map fun b=>.int .u8 b.toNat else none:=rfl
theorem ixs_at {l : List UInt8} {i : Nat} {b : UInt8} (h : l[i]? = some b) (k : IntKind) : ixs (.str l) (.int k (i : Int)) = some (.int .u8 b.toNat):=by
 rw [ixs_s,if_pos (by omega)];simp [h]
def pSmall (n : Int) : Bool:=(decide (97 <= n) && decide (n <= 122)) || n == 95
def pDigit (n : Int) : Bool:=decide (48 <= n) && decide (n <= 57)
def pWord (n : Int) : Bool:=pSmall n || pDigit n
def pText (n : Int) : Bool:=decide (32 <= n) && decide (n <= 126)
def pNote (n : Int) : Bool:=n != 10
def φb (p : Int -> Bool) : List D -> Option D
 | [.int .u8 n]=>some (.bool (p n))
 | _=>none
theorem ok147 : OkAt Tryz.prog 147 (φb pSmall):=by
 refine ok_of (l:=[]) .nil fn147 fun args r h=>?_
 unfold φb at h
 split at h
 ·rename_i n
  injection h with h;subst h
  refine ⟨by simp,by simp [D.cl],fun H T=>?_⟩
  unfold pSmall
  rcases tf (decide (97 <= n)) with h1 | h1
  ·rcases tf (decide (n <= 122)) with h2 | h2
   ·simp +contextual (maxSteps:=10000000) only [c147,h1,h2,go_sem]
   ·simp +contextual (maxSteps:=10000000) only [c147,h1,h2,go_sem]
  ·simp +contextual (maxSteps:=10000000) only [c147,h1,go_sem]
 ·cases h
theorem ok148 : OkAt Tryz.prog 148 (φb pDigit):=by
 refine ok_of (l:=[]) .nil fn148 fun args r h=>?_
 unfold φb at h
 split at h
 ·rename_i n
  injection h with h;subst h
  refine ⟨by simp,by simp [D.cl],fun H T=>?_⟩
  unfold pDigit
  rcases tf (decide (48 <= n)) with h1 | h1 <;> simp +contextual (maxSteps:=10000000) only [c148,h1,go_sem]
 ·cases h
theorem ok200 : OkAt Tryz.prog 200 (φb pText):=by
 refine ok_of (l:=[]) .nil fn200 fun args r h=>?_
 unfold φb at h
 split at h
 ·rename_i n
  injection h with h;subst h
  refine ⟨by simp,by simp [D.cl],fun H T=>?_⟩
  unfold pText
  rcases tf (decide (32 <= n)) with h1 | h1 <;> simp +contextual (maxSteps:=10000000) only [c200,h1,go_sem]
 ·cases h
theorem ok145 : OkAt Tryz.prog 145 (φb pNote):=by
 refine ok_of (l:=[]) .nil fn145 fun args r h=>?_
 unfold φb at h
 split at h
 ·rename_i n
  injection h with h;subst h
  refine ⟨by simp,by simp [D.cl],fun H T=>?_⟩
  unfold pNote
  simp +contextual (maxSteps:=10000000) only [c145,go_sem]
 ·cases h
theorem ok199 : OkAt Tryz.prog 199 (φb pWord):=by
 refine ok_of (l:=[(147,φb pSmall),(148,φb pDigit)]) (.cons ok147 (.cons ok148 .nil)) fn199 fun args r h=>?_
 unfold φb at h
 split at h
 ·rename_i n
  injection h with h;subst h
  refine ⟨by simp,by simp [D.cl],fun H T=>?_⟩
  unfold pWord
  have p1 : φb pSmall [.int .u8 n] = some (.bool (pSmall n)):=rfl
  have p2 : φb pDigit [.int .u8 n] = some (.bool (pDigit n)):=rfl
  rcases tf (pSmall n) with h1 | h1 <;> simp +contextual (maxSteps:=10000000) only [c199,p1,p2,h1,go_sem]
 ·cases h
theorem ok146 : OkAt Tryz.prog 146 (φb pWord):=by
 refine ok_of (l:=[(147,φb pSmall),(148,φb pDigit)]) (.cons ok147 (.cons ok148 .nil)) fn146 fun args r h=>?_
 unfold φb at h
 split at h
 ·rename_i n
  injection h with h;subst h
  refine ⟨by simp,by simp [D.cl],fun H T=>?_⟩
  unfold pWord
  have p1 : φb pSmall [.int .u8 n] = some (.bool (pSmall n)):=rfl
  have p2 : φb pDigit [.int .u8 n] = some (.bool (pDigit n)):=rfl
  rcases tf (pSmall n) with h1 | h1 <;> simp +contextual (maxSteps:=10000000) only [c146,p1,p2,h1,go_sem]
 ·cases h
def runL (p : Int -> Bool) (l : List UInt8) : Nat:=(l.takeWhile fun b=>p (b.toNat : Int)).length
def runN (p : Int -> Bool) (l : List UInt8) (a : Nat) : Nat:=runL p (l.drop a)
theorem runL_eq {p : Int -> Bool} : ∀ {l : List UInt8} {i : Nat},(∀ j b,j < i -> l[j]? = some b -> p b.toNat = true) -> i <= l.length -> (i = l.length ∨ ∃ b,l[i]? = some b /\ p b.toNat = false) -> runL p l = i
 | [],i,_,h,_=>by simp at h;subst h;rfl
 | c :: l,0,_,_,h=>by
  rcases h with h | ⟨b,h1,h2⟩
  ·simp at h
  ·simp at h1;subst h1;simp [runL,h2]
 | c :: l,i + 1,h,hi,he=>by
  have hc:=h 0 c (by omega) rfl
  have:=runL_eq (p:=p) (l:=l) (i:=i) (fun j b hj hb=>h (j + 1) b (by omega) (by simpa using hb)) (by simpa using hi) (by simpa using he)
  simp only [runL,List.takeWhile_cons,hc,if_true,List.length_cons] at this ⊢
  omega
theorem runN_eq {p : Int -> Bool} {l : List UInt8} {a i : Nat} (h : ∀ j b,j < i -> l[a + j]? = some b -> p b.toNat = true) (hi : a + i <= l.length) (he : a + i = l.length ∨ ∃ b,l[a + i]? = some b /\ p b.toNat = false) : runN p l a = i :=
 runL_eq (fun j b hj hb=>h j b hj (by simpa using hb)) (by simp;omega) (he.imp (fun h=>by simp;omega) (fun ⟨b,h1,h2⟩=>⟨b,by simpa using h1,h2⟩))
def sorts (f : Nat) : Option (Int -> Bool):=if f = 199 then some pWord else if f = 148 then some pDigit else if f = 200 then some pText else if f = 145 then some pNote else if f = 146 then some pWord else none
def lst : Fs:=[(199,φb pWord),(148,φb pDigit),(200,φb pText),(145,φb pNote),(146,φb pWord)]
theorem lst_ok : Ok Tryz.prog lst:=.cons ok199 (.cons ok148 (.cons ok200 (.cons ok145 (.cons ok146 .nil))))
theorem lst_look {f : Nat} {p : Int -> Bool} (h : sorts f = some p) (n : Int) : look lst f [.int .u8 n] = some (.bool (p n)):=by
 unfold sorts at h
 split at h
 ·rename_i e;subst e;injection h with h;subst h;rfl
 split at h
 ·rename_i e;subst e;injection h with h;subst h;rfl
 split at h
 ·rename_i e;subst e;injection h with h;subst h;rfl
 split at h
 ·rename_i e;subst e;injection h with h;subst h;rfl
 split at h
 ·rename_i e;subst e;injection h with h;subst h;rfl
 ·cases h
def φrun : List D -> Option D
 | [.str l,.int .i64 a,.fn f [] []]=>match sorts f with
  | some p=>if 0 <= a /\ a <= l.length /\ l.length <= 2 ^ 60 then some (.int .i64 (runN p l a.toNat)) else none
  | none=>none
 | _=>none
set_option maxHeartbeats 2000000 in
theorem ok144 : OkAt Tryz.prog 144 φrun:=by
 refine ok_of lst_ok fn144 fun args r h=>?_
 unfold φrun at h
 split at h
 ·rename_i l a f
  split at h
  ·rename_i p hp
   split at h
   ·rename_i hc
    obtain ⟨ha0,ha,hl⟩:=hc
    injection h with h;subst h
    obtain ⟨a,rfl⟩ : ∃ k : Nat,a = (k : Int):=⟨a.toNat,by omega⟩
    have ha : a <= l.length:=by omega
    refine ⟨by simp,by simp [D.cl],fun H T=>?_⟩
    rw [show ((a : Int)).toNat = a from by omega]
    have pl:=fun n=>lst_look hp n
    simp +contextual (maxSteps:=10000000) only [c144,go_sem]
    refine W_for (fun i s'=>s'.t 0 = .str l /\ s'.t 1 = .int .i64 a /\ s'.t 2 = .fn f [] [] /\ s'.t 7 = .int .i64 ((a + i : Nat) : Int) /\ s'.H = H /\ s'.T = T /\ a + i <= l.length /\ ∀ j b,j < i -> l[a + j]? = some b -> p b.toNat = true) l.length ⟨0,by simp [upd,argT,ha]⟩ (fun i s h=>by have:=h.2.2.2.2.2.2.1;omega) ?_ (XL_mono _)
    rintro i ⟨t,B,T'⟩ ⟨r0,r1,r2,r7,rfl,rfl,hi,hc⟩
    simp only at r0 r1 r2 r7
    have fin : ∀ {k : Nat},k = i -> (a + k = l.length ∨ ∃ b,l[a + k]? = some b /\ p b.toNat = false) -> runN p l a = k:=fun e h=>by subst e;exact runN_eq hc hi h
    have wS : IntKind.i64.wrap (((a + i : Nat) : Int) - (a : Int)) = (i : Int):=by rw [wrap_in (by omega) (by omega)];omega
    by_cases hlt : a + i < l.length
    ·have d1 : decide (((a + i : Nat) : Int) < l.length) = true:=by simp only [decide_eq_true_eq];omega
     have ex : l[a + i]? = some l[a + i]:=by simp [hlt]
     obtain ⟨b,hb⟩ : ∃ b,l[a + i] = b:=⟨_,rfl⟩
     rw [hb] at ex
     have q:=pl (b.toNat : Int)
     have ix:=fun k=>ixs_at ex k
     rcases tf (p (b.toNat : Int)) with g | g
     ·have hnx : ∀ j b,j < i + 1 -> l[a + j]? = some b -> p b.toNat = true:=fun j c hj hc'=>by
       rcases Nat.lt_or_ge j i with h' | h'
       ·exact hc j c h' hc'
       ·have : j = i:=by omega
        subst this;rw [ex] at hc';injection hc' with hc';subst hc';exact g
      simp +contextual (maxSteps:=10000000) only [r0,r1,r2,r7,d1,ix,q,g,wrap_su (a + i) (by omega),go_sem]
      exact ⟨by rw [Nat.add_assoc],by omega,hnx⟩
     ·have hr:=fin rfl (.inr ⟨b,ex,g⟩)
      rw [hr]
      simp +contextual (maxSteps:=10000000) only [r0,r1,r2,r7,d1,ix,q,g,wS,go_sem]
    ·have d1 : decide (((a + i : Nat) : Int) < l.length) = false:=by simp only [decide_eq_false_iff_not];omega
     have hr:=fin rfl (.inl (by omega))
     rw [hr]
     simp +contextual (maxSteps:=10000000) only [r0,r1,r2,r7,d1,wS,go_sem]
   ·cases h
  ·cases h
 ·cases h
end GP
namespace GP
open Go Go.Proofs
set_option maxRecDepth 100000
def signsB : List (List UInt8):=[[61,61],[33,61],[60,61],[62,61],[123],[125],[40],[41],[91],[93],[59],[46],[44],[43],[45],[42],[60],[62]]
def φsigns : List D -> Option D
 | []=>some (.sl none (signsB.map .str))
 | _=>none
theorem ok151 : OkAt Tryz.prog 151 φsigns:=by
 refine ok_of (l:=[]) .nil fn151 fun args r h=>?_
 unfold φsigns at h
 split at h
 ·injection h with h;subst h
  refine ⟨by simp,by decide,fun H T=>?_⟩
  simp +contextual (maxSteps:=10000000) only [c151,go_sem]
  rfl
 ·cases h
end GP
namespace Go.Proofs
open Go.Shelf
shelf_lay LaysC.n174 Nm 174 at Tryz as Tryz.laysPI
shelf_lay LaysM.n173 Nm 173 at Tryz as Tryz.laysFI
end Go.Proofs
namespace GP
open Go Go.Proofs
set_option maxRecDepth 100000
def mkT (k : Int) (s : List UInt8) (n : Int) : D:=.agg [.int .i64 k,.str s,.int .i64 n]
end GP
namespace GP
open Go Go.Proofs
set_option maxRecDepth 100000
def accW (sz : Nat) (T : Tk) (xs : List D) (d : D) (T' : Tk) : Prop:=(xs = [] /\ d = .nils /\ T' = T) ∨ (xs ≠ [] /\ ∃ L i,T' = T ++ L /\ d = .sl (some (T.length + i)) xs /\ L[i]? = some (some (xs.length,sz)))
theorem app_accW {sz bytes : Nat} {K : D -> S -> Prop} {t : Nat -> D} {H : Hp} {T T' : Tk} {xs : List D} {d : D} (x : D) (h : accW sz T xs d T') (hx : fit sz x = true) (hxs : xs.all (fit sz) = true) (hb : (xs.length + 1) * bytes <= 2 ^ 47) (hb2 : xs.length + 1 < 2 ^ 62)
  (k : ∀ d2 T2,accW sz T (xs ++ [x]) d2 T2 -> K d2 ⟨t,H,T2⟩) : appK sz bytes K ⟨t,H,T' ++ [some (1,sz)]⟩ d (some [x]):=by
 rcases h with ⟨rfl,rfl,rfl⟩ | ⟨h0,L,i,rfl,rfl,hL⟩
 ·rw [appK_nils1]
  refine ⟨by simp [hx],by simpa using hb,by simp,k _ _ (.inr ⟨by simp,[some (1,sz),some (1,sz)],1,?_,?_,rfl⟩)⟩
  ·simp
  ·simp
 ·have hi : i < L.length:=by
   rcases Nat.lt_or_ge i L.length with h | h
   ·exact h
   ·rw [List.getElem?_eq_none h] at hL;cases hL
  rw [List.append_assoc,appK_tok]
  refine ⟨by simp [hx],?_,by simpa using hb,by simpa using hb2,hxs,k _ _ (.inr ⟨by simp,_,i,rfl,rfl,?_⟩)⟩
  ·rw [List.getElem?_append_left hi,hL]
  ·rw [List.getElem?_set_self (by simp;omega)];simp
theorem accW_ext {sz : Nat} {T : Tk} {xs : List D} {d : D} {T' : Tk} (h : accW sz T xs d T') : ExtT T T':=by
 rcases h with ⟨_,_,rfl⟩ | ⟨_,L,_,rfl,_⟩
 ·exact ExtT.refl _
 ·exact ExtT.of T L
theorem accW_erase {sz : Nat} {T : Tk} {xs : List D} {d : D} {T' : Tk} (h : accW sz T xs d T') (he : D.eraseL xs = xs) : d.erase = sliceD true xs:=by
 rcases h with ⟨rfl,rfl,_⟩ | ⟨h0,L,i,_,rfl,_⟩
 ·rfl
 ·have : xs.isEmpty = false:=by cases xs with
   | nil=>exact (h0 rfl).elim
   | cons=>rfl
  simp [sliceD,this,D.erase,he]
end GP
namespace GP
open Go Go.Proofs
set_option maxRecDepth 100000
def pLet (n : Int) : Bool:=decide (97 <= n) && decide (n <= 122)
theorem pWord_let (n : Int) : pWord n = (pLet n || n == 95 || pDigit n):=rfl
def signsR : List (List UInt8):=[[123],[125],[40],[41],[91],[93],[59],[46],[44],[43],[45],[42],[60],[62],[61,61],[33,61],[60,61],[62,61]]
def isSign (s : List UInt8) : Bool:=signsR.any (fun x=>x == s)
def wordB (s : List UInt8) : Bool:=match s with
 | []=>false
 | c :: r=>pLet c.toNat && r.all (fun b=>pWord b.toNat) && decide ((s.length : Int) <= 64)
def tupR (p : Int × Bool) : D:=.tup [.int .i64 p.1,.bool p.2]
end GP
namespace GP
open Go Go.Proofs
set_option maxRecDepth 100000
theorem runL_cons {p : Int -> Bool} (c : UInt8) (r : List UInt8) (h : p c.toNat = true) : runL p (c :: r) = 1 + runL p r:=by
 unfold runL;simp only [List.takeWhile_cons,h,if_true,List.length_cons];omega
end GP
namespace GP
open Go Go.Proofs
set_option maxRecDepth 100000
def signs2 : List (List UInt8):=[[61,61],[33,61],[60,61],[62,61]]
def signs1 : List (List UInt8):=[[123],[125],[40],[41],[91],[93],[59],[46],[44],[43],[45],[42],[60],[62]]
theorem signsB_12 : signsB = signs2 ++ signs1:=rfl
theorem isSign_12 (s : List UInt8) : isSign s = (signs1.contains s || signs2.contains s):=by
 have e : signsR = signs1 ++ signs2:=rfl
 unfold isSign
 rw [e,List.any_append]
 congr 1 <;> (rw [List.contains_eq_any_beq];congr 1;funext x;exact BEq.comm)
end GP
namespace GP
open Go Go.Proofs
set_option maxRecDepth 100000
theorem wordB_cons (c : UInt8) (r : List UInt8) : wordB (c :: r) = (pLet c.toNat && r.all (fun b=>pWord b.toNat) && decide (((c :: r).length : Int) <= 64)):=rfl
end GP
namespace GP
open Go Go.Proofs
set_option maxRecDepth 100000
def zeroV : D:=.agg [.int .i64 0,.int .i64 0,.str [],.nils]
def num (n : Int) : D:=.agg [.int .i64 2,.int .i64 n,.str [],.nils]
def φTruth : List D -> Option D
 | [.bool b]=>some (.agg [.int .i64 1,.int .i64 (if b then 1 else 0),.str [],.nils])
 | _=>none
def φNumber : List D -> Option D
 | [.int .i64 n]=>some (num n)
 | _=>none
theorem ok244 [HasG Tryz.prog] : OkAt Tryz.prog 244 φTruth:=by
 refine ok_of (l:=[]) Ok.nil fn244 fun args r h=>?_
 unfold φTruth at h
 split at h
 ·injection h with h;subst h
  refine ⟨by simp,by simp [D.cl,D.clL],fun H T=>?_⟩
  rename_i b
  cases b <;> simp +contextual (maxSteps:=10000000) only [c244,go_sem]
 ·cases h
theorem ok242 [HasG Tryz.prog] : OkAt Tryz.prog 242 φNumber:=by
 refine ok_of (l:=[]) Ok.nil fn242 fun args r h=>?_
 unfold φNumber at h
 split at h
 ·injection h with h;subst h
  refine ⟨by simp,by simp [D.cl,D.clL,num],fun H T=>?_⟩
  simp +contextual (maxSteps:=10000000) only [c242,num,go_sem]
 ·cases h
def plainB (k i : Int) (s : List UInt8) (n : Nat) : Bool :=
 if decide ((0 : Int) < n) then false else if (k != 3) && (s != []) then false else
 if k == 0 then i == 0 else if k == 1 then i == 0 || i == 1 else if k == 2 then true else
 if k == 3 then i == 0 && decide ((s.length : Int) <= 64) else if k == 4 then decide (0 <= i) && decide (i <= 1099511627776) else false
def φplain : List D -> Option D
 | [.agg [.int .i64 k,.int .i64 i,.str s,l]]=>match lenD l with
  | some n=>some (.bool (plainB k i s n))
  | none=>none
 | _=>none
theorem lenD_okc {l : D} {n : Nat} (h : lenD l = some n) : l.okc = true /\ l.cells = [l]:=by
 cases l <;> simp [lenD] at h <;> exact ⟨rfl,rfl⟩
theorem ok179 [HasG Tryz.prog] : OkAt Tryz.prog 179 φplain:=by
 refine ok_of (l:=[]) Ok.nil fn179 fun args r h=>?_
 unfold φplain at h
 split at h
 ·split at h
  ·rename_i k i s l n hn
   injection h with h;subst h
   refine ⟨by simp,by simp [D.cl,D.clL,num],fun H T=>?_⟩
   have hl:=lenD_okc hn
   simp +contextual (maxSteps:=10000000) only [c179,plainB,hn,hl.1,hl.2,go_sem]
  ·cases h
 ·cases h
theorem wrap_of (a : Int) (h : -(2 ^ 63) <= a) (h' : a < 2 ^ 63) : IntKind.i64.wrap a = a:=by
 have e : IntKind.i64.wrap a = if a % (2 ^ 64 : Int) ≥ (2 ^ 63 : Int) then a % (2 ^ 64 : Int) - (2 ^ 64 : Int) else a % (2 ^ 64 : Int):=by
  simp [IntKind.wrap,IntKind.bits,IntKind.signed]
 rw [e]
 split <;> omega
theorem wrap_nat (n : Nat) (h : n < 2 ^ 62) : IntKind.i64.wrap (n : Int) = n:=wrap_of _ (by omega) (by omega)
theorem wrap_succ (n : Nat) (h : n < 2 ^ 61) : IntKind.i64.wrap ((n : Int) + 1) = ((n + 1 : Nat) : Int):=by
 have:=wrap_nat (n + 1) (by omega)
 rw [<- this];simp
@[go_sem] theorem ixs_nat (s : List UInt8) (k : IntKind) (i : Nat) : ixs (.str s) (.int k (i : Int)) = (s[i]?).map fun b=>.int .u8 (b.toNat : Int):=by
 simp [ixs]
def cmpI (a b : Int) : Int:=if a < b then -1 else if b < a then 1 else 0
def cmpS : List UInt8 -> List UInt8 -> Int
 | [],[]=>0
 | [],_ :: _=>-1
 | _ :: _,[]=>1
 | x :: a,y :: b=>if x.toNat < y.toNat then -1 else if y.toNat < x.toNat then 1 else cmpS a b
def φnumbers : List D -> Option D
 | [.int .i64 a,.int .i64 b]=>some (.int .i64 (cmpI a b))
 | _=>none
theorem body205 : Tryz.f205.body.isNone = true:=by kernel_rfl
theorem name205 : (Tryz.f205.name == "runtime.NumGoroutine") = false := by kernel_rfl
theorem next205 : Extern.findNext Tryz.f205 = none:=by kernel_rfl
theorem find205 : Extern.find Tryz.f205 = some Extern.BytealgCompare.compare:=by rfl
theorem cmpS_eq : ∀ (a b : List UInt8),Lib.compareBytes a b = cmpS a b
 | [],[]=>rfl
 | [],_ :: _=>rfl
 | _ :: _,[]=>rfl
 | x :: a,y :: b=>by
  simp only [Lib.compareBytes,cmpS,UInt8.lt_iff_toNat_lt,cmpS_eq a b]
def φcmp : List D -> Option D
 | [.str a,.str b]=>some (.int .i64 (cmpS a b))
 | _=>none
theorem ok205 [HasG Tryz.prog] : OkAt Tryz.prog 205 φcmp:=by
 intro args r hr args' he H T Q hQ
 unfold φcmp at hr
 split at hr
 ·rename_i a b
  injection hr with hr;subst hr
  intro c w vs _ hi hT hrep
  have h:=hrep.erase
  rw [he] at h
  match vs,h.len with
  | [v1,v2],_ =>
   have h1 : Rep c (.str a) v1:=h.rep 0 (by simp) (by simp)
   have h2 : Rep c (.str b) v2:=h.rep 1 (by simp) (by simp)
   cases h1;cases h2
   refine .inr ⟨.int .i64 (cmpS a b),w,?_,?_⟩
   ·rw [run_callFunc_extern Tryz.func205 name205 body205 next205 find205]
    have:=Lib.run_compareString (P:=Tryz.prog) ⟨a.toArray⟩ ⟨b.toArray⟩ w
    rw [cmpS_eq] at this
    simp only at this
    rw [this];rfl
   ·exact ⟨_,rfl,_,H,T,c,hQ,.int _ _,hi,Cx.le.refl c,hT,Below.refl _ _⟩
 ·cases hr
theorem ok176 [HasG Tryz.prog] : OkAt Tryz.prog 176 φcmp:=by
 refine ok_of (l:=[(205,φcmp)]) (.cons ok205 .nil) fn176 fun args r h=>?_
 unfold φcmp at h
 split at h
 ·injection h with h;subst h
  refine ⟨by simp,by simp [D.cl],fun H T=>?_⟩
  simp +contextual (maxSteps:=10000000) only [c176,φcmp,go_sem]
 ·cases h
theorem ok115 [HasG Tryz.prog] : OkAt Tryz.prog 115 φcmp:=by
 refine ok_of (l:=[(176,φcmp)]) (.cons ok176 .nil) fn115 fun args r h=>?_
 unfold φcmp at h
 split at h
 ·injection h with h;subst h
  refine ⟨by simp,by simp [D.cl],fun H T=>?_⟩
  simp +contextual (maxSteps:=10000000) only [c115,φcmp,go_sem]
 ·cases h
def φnan : List D -> Option D
 | [.int .i64 _]=>some (.bool false)
 | _=>none
theorem ok174 [HasG Tryz.prog] : OkAt Tryz.prog 174 φnan:=by
 refine ok_of (l:=[]) .nil fn174 fun args r h=>?_
 unfold φnan at h
 split at h
 ·injection h with h;subst h
  refine ⟨by simp,by simp [D.cl],fun H T=>?_⟩
  simp +contextual (maxSteps:=10000000) only [c174,go_sem]
 ·cases h
theorem ok175 [HasG Tryz.prog] : OkAt Tryz.prog 175 φnan:=by
 refine ok_of (l:=[]) .nil fn175 fun args r h=>?_
 unfold φnan at h
 split at h
 ·injection h with h;subst h
  refine ⟨by simp,by simp [D.cl],fun H T=>?_⟩
  simp +contextual (maxSteps:=10000000) only [c175,go_sem]
 ·cases h
theorem ok113 [HasG Tryz.prog] : OkAt Tryz.prog 113 φnumbers:=by
 refine ok_of (l:=[(174,φnan)]) (.cons ok174 .nil) fn113 fun args r h=>?_
 unfold φnumbers at h
 split at h
 ·injection h with h;subst h
  refine ⟨by simp,by simp [D.cl],fun H T=>?_⟩
  simp +contextual (maxSteps:=10000000) only [c113,φnan,cmpI,go_sem]
  simp
  omega
 ·cases h
theorem ok114 [HasG Tryz.prog] : OkAt Tryz.prog 114 φnumbers:=by
 refine ok_of (l:=[(175,φnan)]) (.cons ok175 .nil) fn114 fun args r h=>?_
 unfold φnumbers at h
 split at h
 ·injection h with h;subst h
  refine ⟨by simp,by simp [D.cl],fun H T=>?_⟩
  simp +contextual (maxSteps:=10000000) only [c114,φnan,cmpI,go_sem]
  simp
  omega
 ·cases h
def singleI (k i : Int) (s : List UInt8) (k' i' : Int) (s' : List UInt8) : Int :=
 if k != k' then cmpI k k' else if k == 3 then cmpS s s' else cmpI i i'
@[go_sem high] theorem ia_nat (sz : Nat) (b : Bool) (xs : List D) (k : IntKind) (i : Nat) : ia sz (sliceD b xs) (.int k (i : Int)) = iaE sz xs[i]?:=by
 rw [ia_sliceD];simp
@[go_sem high] theorem ia_nat' (sz : Nat) (t : Option Nat) (xs : List D) (k : IntKind) (i : Nat) : ia sz (.sl t xs) (.int k (i : Int)) = iaE sz xs[i]?:=by
 rw [ia_sl];simp
theorem isSl_elim {l : D} (h : isSl l = true) : ∃ b,l = sliceD b (elems l):=by
 unfold isSl at h
 split at h
 ·exact ⟨true,rfl⟩
 ·exact ⟨false,rfl⟩
 ·cases h
@[go_sem] theorem isSl_sliceD (b : Bool) (xs : List D) : isSl (sliceD b xs) = true:=by
 rcases sliceD_cases b xs with ⟨h,_⟩ | h <;> rw [h] <;> rfl
end GP
namespace GP
open Go Go.Proofs
set_option maxRecDepth 100000
theorem wrap_pred (n : Nat) (h : n < 2 ^ 61) (h0 : 0 < n) : IntKind.i64.wrap ((n : Int) - 1) = ((n - 1 : Nat) : Int):=by
 rw [wrap_of _ (by omega) (by omega)];omega
theorem all_range_succ {p : Nat -> Bool} (i : Nat) : (List.range (i + 1)).all p = ((List.range i).all p && p i):=by
 rw [List.range_succ];simp
theorem range_false_of {p : Nat -> Bool} {i m : Nat} (hp : p i = false) (him : i < m) : (List.range m).all p = false:=by
 cases hq : (List.range m).all p with
 | false=>rfl
 | true=>rw [List.all_eq_true.1 hq i (by simpa using him)] at hp;cases hp
def one1 (d : D) : Bool:=plainB (vk d) (vi d) (vs d) (vl d).length
def vk0 : List D -> Int
 | x :: _=>vk x
 | []=>0
def okEl (cmp : D -> D -> Int) (xs : List D) (i : Nat) : Bool:=match xs[i]? with
 | none=>true
 | some x=>one1 x && (vk x != 0) && (vk x == vk0 xs) && (i == 0 || (match xs[i - 1]? with | some y=>decide (cmp y x < 0) | none=>false))
def adjB (cmp : D -> D -> Int) (xs : List D) : Bool:=(List.range xs.length).all (okEl cmp xs)
def singleD (a b : D) : Int:=singleI (vk a) (vi a) (vs a) (vk b) (vi b) (vs b)
def formedB (d : D) : Bool:=if vk d != 5 then one1 d else if (vi d != 0) || (vs d != []) || decide ((16 : Int) < (vl d).length) then false else adjB singleD (vl d)
theorem vk0_get {xs : List D} {k i : Int} {s : List UInt8} {n : Bool} {l : List D} (h : xs[0]? = some (mkV k i s n l)) : vk0 xs = k:=by
 cases xs with
 | nil=>simp at h
 | cons x xs=>simp at h;subst h;rfl
theorem erase_of_isV {l : List D} (h : ∀ x ∈ l,x.isV = true) : D.eraseL l = l:=isVs_erase (isVs_iff.2 h)
theorem get_isV {xs : List D} (h : ∀ x ∈ xs,x.isV = true) {i : Nat} (hi : i < xs.length) : ∃ k i' s n l,xs[i]? = some (mkV k i' s n l) /\ s.length <= 2 ^ 47 /\ l.length <= 2 ^ 47 /\ (∀ x ∈ l,x.isV = true) /\ D.eraseL l = l:=by
 obtain ⟨k,i',s,n,l,he,h1,h2,h3⟩:=isV_elim (h _ (List.getElem_mem hi))
 exact ⟨k,i',s,n,l,by rw [<- he];simp [hi],h1,h2,h3,erase_of_isV h3⟩
theorem putRow_app (n off : Nat) (v : D) (M : Hp) : ∀ (L : Hp) (i : Nat),putRow n off v (L ++ M) (L.length + i) = (putRow n off v M i).map (L ++ ·)
 | [],i=>by simp
 | x :: L,i=>by
  have e : (x :: L).length + i = (L.length + i) + 1:=by simp;omega
  rw [e,List.cons_append,putRow_s,putRow_app n off v M L i]
  cases putRow n off v M i <;> simp
@[go_sem] theorem putRow_app' (n off : Nat) (v : D) (L M : Hp) (i : Nat) : putRow n off v (L ++ M) (L.length + i) = (putRow n off v M i).map (L ++ ·):=putRow_app n off v M L i
@[go_sem] theorem putRow_app0 (n off : Nat) (v : D) (L M : Hp) : putRow n off v (L ++ M) L.length = (putRow n off v M 0).map (L ++ ·):=putRow_app n off v M L 0
def or3 (a b c : Int) : Int:=if a != 0 then a else if b != 0 then b else c
def φOr : List D -> Option D
 | [.sl none [.int .i64 a,.int .i64 b,.int .i64 c]]=>some (.int .i64 (or3 a b c))
 | _=>none
theorem ok112 [HasG Tryz.prog] : OkAt Tryz.prog 112 φOr:=by
 refine ok_of (l:=[]) .nil fn112 fun args r h=>?_
 unfold φOr at h
 split at h
 ·injection h with h;subst h
  rename_i a b c
  refine ⟨by simp,by simp [D.cl],fun H T=>?_⟩
  simp +contextual (maxSteps:=10000000) only [c112,go_sem]
  refine W_for (fun i s=>s.t 3 = .int .i64 0 /\ s.t 6 = .sl none [.int .i64 a,.int .i64 b,.int .i64 c] /\ s.t 7 = .int .i64 3 /\ s.t 8 = .int .i64 i /\ s.H = H /\ s.T = T /\ i <= 3 /\ (1 <= i -> a = 0) /\ (2 <= i -> b = 0) /\ (3 <= i -> c = 0)) 3 ⟨0,by simp [upd,argT]⟩ (fun i s h=>h.2.2.2.2.2.2.1) ?_ (XL_mono _)
  rintro i ⟨t,H',T'⟩ ⟨h3,h6,h7,h8,rfl,rfl,hi,z1,z2,z3⟩
  simp only at h3 h6 h7 h8
  have w1 : IntKind.i64.wrap 1 = 1:=by decide
  have w2 : IntKind.i64.wrap 2 = 2:=by decide
  have w3 : IntKind.i64.wrap 3 = 3:=by decide
  match i,hi with
  | 0,_ =>
   simp +contextual (maxSteps:=10000000) only [h3,h6,h7,h8,or3,w1,Int.reduceAdd,go_sem]
   grind
  | 1,_ =>
   have:=z1 (by omega);subst this
   simp +contextual (maxSteps:=10000000) only [h3,h6,h7,h8,or3,w2,Int.reduceAdd,go_sem]
   grind
  | 2,_ =>
   have:=z1 (by omega);subst this
   have:=z2 (by omega);subst this
   simp +contextual (maxSteps:=10000000) only [h3,h6,h7,h8,or3,w3,Int.reduceAdd,go_sem]
   grind
  | 3,_ =>
   have:=z1 (by omega);subst this
   have:=z2 (by omega);subst this
   have:=z3 (by omega);subst this
   simp +contextual (maxSteps:=10000000) only [h3,h6,h7,h8,or3,go_sem]
 ·cases h
def cmpL (f : D -> D -> Int) : List D -> List D -> Int
 | [],[]=>0
 | [],_ :: _=>-1
 | _ :: _,[]=>1
 | x :: xs,y :: ys=>if f x y != 0 then f x y else cmpL f xs ys
def φCF (dom : D -> Bool) (f : D -> D -> Int) : List D -> Option D
 | [l1,l2,.fn 64 [] []]=>if isSl l1 = true /\ isSl l2 = true /\ D.isVs (elems l1) = true /\ D.isVs (elems l2) = true /\ (elems l1).all dom = true /\ (elems l2).all dom = true /\ (elems l1).length <= 2 ^ 47 /\ (elems l2).length <= 2 ^ 47 then some (.int .i64 (cmpL f (elems l1) (elems l2))) else none
 | _=>none
theorem ok116 [HasG Tryz.prog] {φ : List D -> Option D} (h13 : OkAt Tryz.prog 64 φ) {dom : D -> Bool} {f : D -> D -> Int} (hφ : ∀ x y,x.isV = true -> y.isV = true -> dom x = true -> dom y = true -> φ [x,y] = some (.int .i64 (f x y))) : OkAt Tryz.prog 116 (φCF dom f):=by
 refine ok_of (l:=[(64,φ)]) (.cons h13 .nil) fn116 fun args r h=>?_
 unfold φCF at h
 split at h
 ·split at h
  ·rename_i l1 l2 hl
   injection h with h;subst h
   refine ⟨by simp,by simp [D.cl],fun H T=>?_⟩
   obtain ⟨g1,g2,g3,g4,g5,g6,g7,g8⟩:=hl
   obtain ⟨b1,hb1⟩:=isSl_elim g1
   obtain ⟨b2,hb2⟩:=isSl_elim g2
   generalize elems l1 = xs at *
   generalize elems l2 = ys at *
   subst hb1;subst hb2
   have hV1:=isVs_iff.1 g3
   have hV2:=isVs_iff.1 g4
   simp +contextual (maxSteps:=10000000) only [c116,go_sem]
   refine W_for (fun i s=>s.t 0 = sliceD b1 xs /\ s.t 1 = sliceD b2 ys /\ s.t 2 = .fn 64 [] [] /\ s.t 11 = sliceD b1 xs /\ s.t 12 = .int .i64 xs.length /\ s.t 13 = .int .i64 i /\ (∃ L,s.H = H ++ L) /\ s.T = T /\ i <= xs.length /\ i <= ys.length /\ cmpL f (xs.drop i) (ys.drop i) = cmpL f xs ys) xs.length ⟨0,by simp [upd,argT]⟩ (fun i s h=>h.2.2.2.2.2.2.2.2.1) ?_ (XL_mono _)
   rintro i ⟨t,H',T'⟩ ⟨h0,h1,h2,h11,h12,h13,⟨L,rfl⟩,rfl,hi,hj,hc⟩
   simp only at h0 h1 h2 h11 h12 h13
   by_cases ha : i < xs.length
   ·have d1 : decide ((i : Int) < xs.length) = true:=by simpa using ha
    obtain ⟨k1,i1,s1,n1,q1,e1,_,_,v1,r1⟩:=get_isV hV1 ha
    by_cases hb : i < ys.length
    ·have d2 : decide ((ys.length : Int) <= i) = false:=by simp;omega
     obtain ⟨k2,i2,s2,n2,q2,e2,_,_,v2,r2⟩:=get_isV hV2 hb
     have x1 : xs[i] = mkV k1 i1 s1 n1 q1:=by rw [List.getElem?_eq_getElem ha] at e1;exact Option.some.inj e1
     have x2 : ys[i] = mkV k2 i2 s2 n2 q2:=by rw [List.getElem?_eq_getElem hb] at e2;exact Option.some.inj e2
     have p:=hφ _ _ (hV1 _ (List.getElem_mem ha)) (hV2 _ (List.getElem_mem hb)) (List.all_eq_true.1 g5 _ (List.getElem_mem ha)) (List.all_eq_true.1 g6 _ (List.getElem_mem hb))
     rw [List.drop_eq_getElem_cons ha,List.drop_eq_getElem_cons hb,cmpL] at hc
     rw [x1,x2] at p hc
     generalize f (mkV k1 i1 s1 n1 q1) (mkV k2 i2 s2 n2 q2) = F at p hc
     simp only [mkV] at p
     simp +contextual (maxSteps:=10000000) only [h0,h1,h2,h11,h12,h13,d1,d2,e1,e2,mkV,p,r1,r2,wrap_succ i (by omega),go_sem]
     refine ⟨fun q=>?_,fun q=>⟨⟨_,rfl⟩,by omega,by omega,?_⟩⟩
     ·rw [if_pos q] at hc;rw [hc]
     ·rw [if_neg (by rw [q];decide)] at hc;exact hc
    ·have d2 : decide ((ys.length : Int) <= i) = true:=by simp;omega
     rw [List.drop_eq_getElem_cons ha,List.drop_eq_nil_of_le (by omega : ys.length <= i),cmpL] at hc
     simp +contextual (maxSteps:=10000000) only [h0,h1,h2,h11,h12,h13,d1,d2,e1,mkV,← hc,go_sem]
   ·have d1 : decide ((i : Int) < xs.length) = false:=by simpa using ha
    rw [List.drop_eq_nil_of_le (by omega : xs.length <= i)] at hc
    by_cases hb : i < ys.length
    ·have d2 : decide ((xs.length : Int) < ys.length) = true:=by simp;omega
     rw [List.drop_eq_getElem_cons hb,cmpL] at hc
     simp +contextual (maxSteps:=10000000) only [h0,h1,h2,h11,h12,h13,d1,d2,← hc,go_sem]
    ·have d2 : decide ((xs.length : Int) < ys.length) = false:=by simp;omega
     rw [List.drop_eq_nil_of_le (by omega : ys.length <= i),cmpL] at hc
     simp +contextual (maxSteps:=10000000) only [h0,h1,h2,h11,h12,h13,d1,d2,← hc,go_sem]
  ·cases h
 ·cases h
def ordW (f : D -> D -> Int) (a b : D) : Int :=
 if or3 (cmpI (vk a) (vk b)) (cmpI (vi a) (vi b)) (cmpS (vs a) (vs b)) != 0 then or3 (cmpI (vk a) (vk b)) (cmpI (vi a) (vi b)) (cmpS (vs a) (vs b)) else cmpL f (vl a) (vl b)
def φOrd (dom : D -> Bool) (f : D -> D -> Int) : List D -> Option D
 | [a,b]=>if a.isV = true /\ b.isV = true /\ (vl a).all dom = true /\ (vl b).all dom = true then some (.int .i64 (ordW f a b)) else none
 | _=>none
theorem ok64 [HasG Tryz.prog] {dom : D -> Bool} {f : D -> D -> Int} (h38 : OkAt Tryz.prog 116 (φCF dom f)) : OkAt Tryz.prog 64 (φOrd dom f):=by
 refine ok_of (l:=[(113,φnumbers),(114,φnumbers),(115,φcmp),(112,φOr),(116,φCF dom f)]) (.cons ok113 (.cons ok114 (.cons ok115 (.cons ok112 (.cons h38 .nil))))) fn64 fun args r h=>?_
 unfold φOrd at h
 split at h
 ·split at h
  ·rename_i a b hab
   injection h with h;subst h
   refine ⟨by simp,by simp [D.cl],fun H T=>?_⟩
   obtain ⟨ha,hb,hda,hdb⟩:=hab
   obtain ⟨k1,i1,s1,n1,l1,rfl,z1,y1,hV1⟩:=isV_elim ha
   obtain ⟨k2,i2,s2,n2,l2,rfl,z2,y2,hV2⟩:=isV_elim hb
   simp only [vl_mk] at hda hdb
   have r1:=erase_of_isV hV1
   have r2:=erase_of_isV hV2
   have p : φCF dom f [sliceD n1 l1,sliceD n2 l2,.fn 64 [] []] = some (.int .i64 (cmpL f l1 l2)):=by
    simp only [φCF,isSl_sliceD,elems_sliceD,isVs_iff.2 hV1,isVs_iff.2 hV2,hda,hdb,y1,y2,and_self,if_true]
   have q : ordW f (mkV k1 i1 s1 n1 l1) (mkV k2 i2 s2 n2 l2) = if or3 (cmpI k1 k2) (cmpI i1 i2) (cmpS s1 s2) != 0 then or3 (cmpI k1 k2) (cmpI i1 i2) (cmpS s1 s2) else cmpL f l1 l2:=by
    simp only [ordW,vk_mk,vi_mk,vs_mk,vl_mk]
   rw [q]
   simp +contextual (maxSteps:=10000000) only [c64,mkV,φnumbers,φcmp,φOr,r1,r2,p,fit_eq,go_sem]
  ·cases h
 ·cases h
theorem ok64none [HasG Tryz.prog] : OkAt Tryz.prog 64 (fun _=>none):=fun _ _ h=>by cases h
def dom0 (_ : D) : Bool:=false
def f0 (_ _ : D) : Int:=0
def ord0:=ordW f0
theorem ok64a [HasG Tryz.prog] : OkAt Tryz.prog 64 (φOrd dom0 f0):=ok64 (ok116 ok64none (fun _ _ _ _ h=>by cases h))
def leaf (d : D) : Bool:=(vl d).isEmpty
theorem ord_leaf {x y : D} (hx : x.isV = true) (hy : y.isV = true) (h1 : leaf x = true) (h2 : leaf y = true) : φOrd dom0 f0 [x,y] = some (.int .i64 (ord0 x y)):=by
 simp only [leaf,List.isEmpty_iff] at h1 h2
 simp [φOrd,hx,hy,h1,h2,ord0]
def formedV (d : D) : Bool:=if vk d != 5 then one1 d else if adjB ord0 (vl d) then (vi d == 0) && (vs d == []) && decide (((vl d).length : Int) <= 16) else false
def φFormed : List D -> Option D
 | [d]=>if d.isV = true then some (.bool (formedV d)) else none
 | _=>none
theorem plain_leaf {k i : Int} {s : List UInt8} {n : Nat} (h : plainB k i s n = true) : n = 0:=by
 unfold plainB at h
 by_cases hn : (0 : Int) < n
 ·simp [hn] at h
  exact h.1
 ·omega
theorem ok129 [HasG Tryz.prog] : OkAt Tryz.prog 129 φFormed:=by
 refine ok_of (l:=[(179,φplain),(64,φOrd dom0 f0)]) (.cons ok179 (.cons ok64a .nil)) fn129 fun args r h=>?_
 unfold φFormed at h
 split at h
 ·split at h
  ·rename_i d hd
   injection h with h;subst h
   refine ⟨by simp,by simp [D.cl],fun H T=>?_⟩
   obtain ⟨k,i,s,n,xs,rfl,hs,hx,hV⟩:=isV_elim hd
   have eL:=erase_of_isV hV
   have F : formedV (mkV k i s n xs) = if k != 5 then plainB k i s xs.length else if adjB ord0 xs then (i == 0) && (s == []) && decide ((xs.length : Int) <= 16) else false:=by simp only [formedV,one1,vk_mk,vi_mk,vs_mk,vl_mk]
   rw [F]
   simp +contextual (maxSteps:=10000000) only [c129,mkV,φplain,eL,go_sem]
   intro q1
   refine W_for (fun j s'=>s'.t 1 = .ptr H.length 0 /\ s'.t 11 = sliceD n xs /\ s'.t 12 = .int .i64 xs.length /\ s'.t 13 = .int .i64 j /\ (∃ L,s'.H = H ++ .row [.int .i64 k,.int .i64 i,.str s,sliceD n xs] :: L) /\ s'.T = T /\ j <= xs.length /\ (List.range j).all (okEl ord0 xs) = true) xs.length ⟨0,by simp [upd,argT]⟩ (fun i s h=>h.2.2.2.2.2.2.1) ?_ (XL_mono _)
   rintro j ⟨t,H',T'⟩ ⟨h1,h11,h12,h13,⟨L,rfl⟩,rfl,hj,hc⟩
   simp only at h1 h11 h12 h13
   by_cases ha : j < xs.length
   ·have d1 : decide ((j : Int) < xs.length) = true:=by simpa using ha
    obtain ⟨k1,i1,s1,n1,l1,e1,hs1,hx1,hV1,eL1⟩:=get_isV hV ha
    obtain ⟨k0,i0,s0,n0,l0,e0,_⟩:=get_isV hV (show 0 < xs.length by omega)
    have fk:=vk0_get e0
    have bad : okEl ord0 xs j = false -> adjB ord0 xs = false:=fun h=>range_false_of h ha
    by_cases hj0 : 0 < j
    ·obtain ⟨k2,i2,s2,n2,l2,e2,hs2,hx2,hV2,eL2⟩:=get_isV hV (show j - 1 < xs.length by omega)
     have d2 : decide ((0 : Int) < j) = true:=by simpa using hj0
     have pv : okEl ord0 xs (j - 1) = true:=List.all_eq_true.1 hc (j - 1) (by simp;omega)
     have lf2 : l2 = []:=by
      simp only [okEl,e2,one1,vk_mk,vi_mk,vs_mk,vl_mk,Bool.and_eq_true] at pv
      exact List.length_eq_zero_iff.1 (plain_leaf pv.1.1.1)
     subst lf2
     generalize ho : ord0 (mkV k2 i2 s2 n2 []) (mkV k1 i1 s1 n1 l1) = o
     have G : okEl ord0 xs j = (plainB k1 i1 s1 l1.length && (k1 != 0) && (k1 == k0) && decide (o < 0)):=by
      have : (j == 0) = false:=by simp;omega
      simp only [okEl,e1,e2,fk,one1,ho,vk_mk,vi_mk,vs_mk,vl_mk,this,Bool.false_or]
     by_cases hp : plainB k1 i1 s1 l1.length = true
     ·have lf1 : l1 = []:=List.length_eq_zero_iff.1 (plain_leaf hp)
      subst lf1
      have p:=ord_leaf (x:=mkV k2 i2 s2 n2 []) (y:=mkV k1 i1 s1 n1 []) (isV_mk hs2 (by simp) (by simp)) (isV_mk hs1 (by simp) (by simp)) (by simp [leaf,vl_mk]) (by simp [leaf,vl_mk])
      rw [ho] at p
      simp only [mkV] at p
      simp only [List.length_nil] at hp G
      simp +contextual (maxSteps:=10000000) only [h1,h11,h12,h13,d1,d2,e0,e1,e2,mkV,φplain,p,hp,wrap_pred j (by omega) hj0,wrap_succ j (by omega),go_sem]
      refine ⟨fun q=>?_,fun p2=>⟨fun q=>?_,fun p3=>⟨fun q=>?_,fun p4=>⟨⟨_,rfl⟩,by omega,?_⟩⟩⟩⟩
      ·rw [bad (by rw [G];grind)];rfl
      ·rw [bad (by rw [G];grind)];rfl
      ·rw [bad (by rw [G];grind)];rfl
      ·rw [List.all_append,hc]
       simp only [List.all_cons,List.all_nil,G]
       grind
     ·have hp' : plainB k1 i1 s1 l1.length = false:=by simpa using hp
      have hb:=bad (by rw [G,hp'];rfl)
      simp +contextual (maxSteps:=10000000) only [h1,h11,h12,h13,d1,d2,e0,e1,e2,mkV,φplain,hp',eL1,hb,go_sem]
    ·have d2 : decide ((0 : Int) < j) = false:=by simpa using hj0
     have G : okEl ord0 xs j = (plainB k1 i1 s1 l1.length && (k1 != 0) && (k1 == k0)):=by
      have : (j == 0) = true:=by simp;omega
      simp only [okEl,e1,fk,one1,vk_mk,vi_mk,vs_mk,vl_mk,this,Bool.true_or,Bool.and_true]
     simp +contextual (maxSteps:=10000000) only [h1,h11,h12,h13,d1,d2,e0,e1,mkV,φplain,eL1,wrap_succ j (by omega),go_sem]
     refine ⟨fun q=>?_,fun p1=>⟨fun q=>?_,fun p2=>⟨fun q=>?_,fun p3=>⟨⟨_,rfl⟩,by omega,?_⟩⟩⟩⟩
     ·rw [bad (by rw [G];grind)];rfl
     ·rw [bad (by rw [G];grind)];rfl
     ·rw [bad (by rw [G];grind)];rfl
     ·rw [List.all_append,hc]
      simp only [List.all_cons,List.all_nil,G]
      grind
   ·have d1 : decide ((j : Int) < xs.length) = false:=by simpa using ha
    have hA : adjB ord0 xs = true:=by
     have : j = xs.length:=by omega
     subst this;exact hc
    simp +contextual (maxSteps:=10000000) only [h1,h11,h12,h13,d1,mkV,hA,go_sem]
  ·cases h
 ·cases h
end GP
namespace GP
open Go Go.Proofs
set_option maxRecDepth 100000
theorem plain_facts {k i : Int} {s : List UInt8} {n : Nat} (h : plainB k i s n = true) : n = 0 /\ (k = 3 -> i = 0) /\ (k ≠ 3 -> s = []) /\ 0 <= k /\ k <= 4:=by
 refine ⟨plain_leaf h,?_,?_,?_,?_⟩ <;> unfold plainB at h <;> grind
theorem cmpI_self (a : Int) : cmpI a a = 0:=by simp [cmpI]
theorem cmpI_ne {a b : Int} (h : a ≠ b) : cmpI a b ≠ 0:=by unfold cmpI;split <;> (try split) <;> omega
theorem or3_eq {a b : D} (ha : one1 a = true) (hb : one1 b = true) : or3 (cmpI (vk a) (vk b)) (cmpI (vi a) (vi b)) (cmpS (vs a) (vs b)) = singleD a b:=by
 obtain ⟨_,a1,a2,_⟩:=plain_facts ha
 obtain ⟨_,b1,b2,_⟩:=plain_facts hb
 simp only [or3,singleD,singleI]
 by_cases hk : vk a = vk b
 ·by_cases h3 : vk a = 3
  ·have e1:=a1 h3
   have e2:=b1 (by omega)
   simp [hk,cmpI_self,e1,e2,show vk b = 3 by omega]
  ·have e1:=a2 h3
   have e2:=b2 (by omega)
   have h3' : ¬ vk b = 3:=by omega
   simp only [hk,cmpI_self,e1,e2,cmpS]
   simp [h3']
   intro h;rw [h]
 ·have:=cmpI_ne hk
  simp [hk,this]
theorem ord_single {a b : D} (ha : one1 a = true) (hb : one1 b = true) (f : D -> D -> Int) : ordW f a b = singleD a b:=by
 have la : vl a = []:=List.length_eq_zero_iff.1 (plain_facts ha).1
 have lb : vl b = []:=List.length_eq_zero_iff.1 (plain_facts hb).1
 unfold ordW
 rw [or3_eq ha hb,la,lb]
 simp only [cmpL]
 split
 ·rfl
 ·rename_i h;simpa using Eq.symm (show singleD a b = 0 by simpa using h)
theorem okEl_same {xs : List D} {i : Nat} (hp : 0 < i -> okEl ord0 xs (i - 1) = true) : okEl ord0 xs i = okEl singleD xs i:=by
 unfold okEl
 cases hx : xs[i]? with
 | none=>rfl
 | some x =>
  simp only
  by_cases h0 : i = 0
  ·simp [h0]
  ·have hq:=hp (by omega)
   unfold okEl at hq
   cases hy : xs[i - 1]? with
   | none=>rfl
   | some y =>
    rw [hy] at hq
    simp only [Bool.and_eq_true] at hq
    by_cases h1 : one1 x = true
    ·have : ord0 y x = singleD y x:=ord_single hq.1.1.1 h1 f0
     simp only [this]
    ·simp [h1]
theorem adj_same (xs : List D) : ∀ n,(List.range n).all (okEl ord0 xs) = (List.range n).all (okEl singleD xs)
 | 0=>rfl
 | n + 1=>by
  rw [all_range_succ,all_range_succ,← adj_same xs n]
  cases hq : (List.range n).all (okEl ord0 xs) with
  | false=>rfl
  | true =>
   simp only [Bool.true_and]
   exact okEl_same fun h0=>List.all_eq_true.1 hq (n - 1) (by simp;omega)
theorem formed_same (d : D) : formedV d = formedB d:=by
 unfold formedV formedB
 have : adjB ord0 (vl d) = adjB singleD (vl d):=adj_same _ _
 rw [this]
 grind
theorem el_one {xs : List D} (h : adjB singleD xs = true) : ∀ x ∈ xs,one1 x = true:=by
 intro x hx
 obtain ⟨i,hi,rfl⟩:=List.getElem_of_mem hx
 have:=List.all_eq_true.1 h i (by simpa using hi)
 unfold okEl at this
 simp only [List.getElem?_eq_getElem hi,Bool.and_eq_true] at this
 exact this.1.1.1
end GP
namespace GP
open Go Go.Proofs
set_option maxRecDepth 100000
def sameEl (x y : D) : Bool:=(vk x == vk y) && (vi x == vi y) && (vs x == vs y) && !decide ((0 : Int) < (vl x).length) && !decide ((0 : Int) < (vl y).length)
def okSame (xs ys : List D) (i : Nat) : Bool:=match xs[i]?,ys[i]? with
 | some x,some y=>sameEl x y
 | _,_=>true
def sameB (a b : D) : Bool:=if (vk a != vk b) || (vi a != vi b) || (vs a != vs b) || !((vl a).length == (vl b).length) then false else (List.range (vl a).length).all (okSame (vl a) (vl b))
def φSame : List D -> Option D
 | [a,b]=>if a.isV = true /\ b.isV = true then some (.bool (sameB a b)) else none
 | _=>none
theorem bne_len (a b : Nat) : ((a : Int) != (b : Int)) = !(a == b):=by
 rw [Bool.eq_iff_iff];simp;omega
set_option maxHeartbeats 2000000 in
theorem ok54 [HasG Tryz.prog] : OkAt Tryz.prog 54 φSame:=by
 refine ok_of (l:=[]) .nil fn54 fun args r h=>?_
 unfold φSame at h
 split at h
 ·split at h
  ·rename_i a b hab
   injection h with h;subst h
   refine ⟨by simp,by simp [D.cl],fun H T=>?_⟩
   obtain ⟨ha,hb⟩:=hab
   obtain ⟨k1,i1,s1,n1,xs,rfl,z1,y1,hV1⟩:=isV_elim ha
   obtain ⟨k2,i2,s2,n2,ys,rfl,z2,y2,hV2⟩:=isV_elim hb
   have hS : sameB (mkV k1 i1 s1 n1 xs) (mkV k2 i2 s2 n2 ys) = if (k1 != k2) || (i1 != i2) || (s1 != s2) || !(xs.length == ys.length) then false else (List.range xs.length).all (okSame xs ys):=by simp only [sameB,vk_mk,vi_mk,vs_mk,vl_mk]
   rw [hS]
   have bl:=bne_len xs.length ys.length
   simp +contextual (maxSteps:=10000000) only [c54,mkV,bl,go_sem]
   intro q1 q2 q3 q4
   have hl : xs.length = ys.length:=by simpa using q4
   refine W_for (fun j s'=>s'.t 2 = .ptr H.length 0 /\ s'.t 3 = .ptr (H.length + 1) 0 /\ s'.t 5 = .int .i64 j /\ Ext (H ++ [.row [.int .i64 k1,.int .i64 i1,.str s1,sliceD n1 xs],.row [.int .i64 k2,.int .i64 i2,.str s2,sliceD n2 ys]]) s'.H /\ s'.T = T /\ j <= xs.length /\ (List.range j).all (okSame xs ys) = true) xs.length ⟨0,by simp [upd,argT,ext_self]⟩ (fun i s h=>h.2.2.2.2.2.1) ?_ (XL_mono _)
   rintro j ⟨t,B,T'⟩ ⟨h2,h3,h5,hE,rfl,hj,hc⟩
   simp only at h2 h3 h5 hE
   have b1:=hE.get (o:=H.length) (by simp;rfl)
   have b2:=hE.get (o:=H.length + 1) (by simp;rfl)
   by_cases ha : j < xs.length
   ·have d1 : decide ((j : Int) < xs.length) = true:=by simpa using ha
    obtain ⟨k3,i3,s3,n3,l3,e3,hs3,hx3,hV3,eL3⟩:=get_isV hV1 ha
    obtain ⟨k4,i4,s4,n4,l4,e4,hs4,hx4,hV4,eL4⟩:=get_isV hV2 (show j < ys.length by omega)
    have G : okSame xs ys j = ((k3 == k4) && (i3 == i4) && (s3 == s4) && !decide ((0 : Int) < l3.length) && !decide ((0 : Int) < l4.length)):=by
     simp only [okSame,e3,e4,sameEl,vk_mk,vi_mk,vs_mk,vl_mk]
    have bad : okSame xs ys j = false -> (List.range xs.length).all (okSame xs ys) = false:=fun h=>range_false_of h ha
    simp +contextual (maxSteps:=10000000) only [h2,h3,h5,d1,e3,e4,mkV,wrap_succ j (by omega),rdAt_E b1,rdAt_E b2,rdAt_Ea b1,rdAt_Ea b2,hE.ta,leaves_Ea hE.pre (ExtT.refl _),go_sem]
    simp only [List.all_append,hc,List.all_cons,List.all_nil,Bool.true_and,Bool.and_true,D.bool.injEq]
    rw [G] at bad ⊢
    clear G
    repeat' (first | apply And.intro | intro _)
    all_goals first | omega | grind
   ·have d1 : decide ((j : Int) < xs.length) = false:=by simpa using ha
    have hA : (List.range xs.length).all (okSame xs ys) = true:=by
     have : j = xs.length:=by omega
     subst this;exact hc
    simp +contextual (maxSteps:=10000000) only [h2,h3,h5,d1,mkV,hA,rdAt_E b1,rdAt_E b2,leaves_E hE.pre (ExtT.refl _),go_sem]
  ·cases h
 ·cases h
end GP
namespace GP
open Go Go.Proofs
set_option maxRecDepth 100000
def lex (p q : Int) : Int:=if p != 0 then p else q
structure Tr (p q r : Int) : Prop where
 le : p <= 0 -> q <= 0 -> r <= 0
 l1 : p < 0 -> q <= 0 -> r < 0
 l2 : p <= 0 -> q < 0 -> r < 0
 e1 : p = 0 -> r = q
 e2 : q = 0 -> r = p
theorem Tr.lex {p q r p' q' r' : Int} (h : Tr p q r) (k : p = 0 -> q = 0 -> Tr p' q' r') : Tr (lex p p') (lex q q') (lex r r'):=by
 obtain ⟨a1,a2,a3,a4,a5⟩:=h
 unfold GP.lex
 by_cases hp : p = 0
 ·by_cases hq : q = 0
  ·have hr : r = 0:=by rw [a4 hp,hq]
   subst hp;subst hq;subst hr
   simpa using k rfl rfl
  ·have hr : r = q:=a4 hp
   have hp' : (p != 0) = false:=by simp [hp]
   have hq' : (q != 0) = true:=by simp [hq]
   have hr' : (r != 0) = true:=by rw [hr];exact hq'
   rw [hp',hq',hr']
   simp only [Bool.false_eq_true,if_false,if_true]
   subst hr
   refine ⟨?_,?_,?_,?_,?_⟩ <;> omega
 ·have hp' : (p != 0) = true:=by simp [hp]
  rw [hp']
  by_cases hq : q = 0
  ·have hr : r = p:=a5 hq
   have hq' : (q != 0) = false:=by simp [hq]
   have hr' : (r != 0) = true:=by rw [hr];exact hp'
   rw [hq',hr']
   simp only [Bool.false_eq_true,if_false,if_true]
   subst hr
   refine ⟨?_,?_,?_,?_,?_⟩ <;> omega
  ·have hq' : (q != 0) = true:=by simp [hq]
   rw [hq']
   simp only [if_true]
   by_cases hr : r = 0
   ·refine ⟨?_,?_,?_,?_,?_⟩ <;> (try omega) <;> intro h1 h2 <;> (first | (have:=a2 (by omega) (by omega);omega) | omega)
   ·have hr' : (r != 0) = true:=by simp [hr]
    rw [hr'];simp only [if_true]
    exact ⟨a1,a2,a3,a4,a5⟩
theorem cmpI_tr (a b c : Int) : Tr (cmpI a b) (cmpI b c) (cmpI a c):=by
 unfold cmpI
 refine ⟨?_,?_,?_,?_,?_⟩ <;> (repeat' split) <;> omega
theorem cmpI_anti (a b : Int) : cmpI b a = - cmpI a b:=by unfold cmpI;(repeat' split) <;> omega
theorem cmpI_zero (a b : Int) : cmpI a b = 0 ↔ a = b:=by unfold cmpI;(repeat' split) <;> omega
theorem lex_anti {p q p' q' : Int} (h : p' = -p) (k : q' = -q) : lex p' q' = - lex p q:=by unfold lex;subst h;subst k;by_cases hp : p = 0 <;> simp [hp]
theorem lex_zero {p q : Int} : lex p q = 0 ↔ p = 0 /\ q = 0:=by unfold lex;by_cases hp : p = 0 <;> simp [hp]
theorem cmpS_lex (x y : UInt8) (a b : List UInt8) : cmpS (x :: a) (y :: b) = lex (cmpI x.toNat y.toNat) (cmpS a b):=by
 simp only [cmpS,lex,cmpI]
 by_cases h1 : x.toNat < y.toNat
 ·have : (x.toNat : Int) < y.toNat:=by omega
  simp [h1,this]
 ·by_cases h2 : y.toNat < x.toNat
  ·have e1 : ¬ (x.toNat : Int) < y.toNat:=by omega
   have e2 : (y.toNat : Int) < x.toNat:=by omega
   simp [h1,h2,e1,e2]
  ·have e1 : ¬ (x.toNat : Int) < y.toNat:=by omega
   have e2 : ¬ (y.toNat : Int) < x.toNat:=by omega
   simp [h1,h2,e1,e2]
theorem cmpS_tr : ∀ (a b c : List UInt8),Tr (cmpS a b) (cmpS b c) (cmpS a c)
 | [],[],[]=>⟨by simp [cmpS],by simp [cmpS],by simp [cmpS],by simp [cmpS],by simp [cmpS]⟩
 | [],[],_ :: _=>⟨by simp [cmpS],by simp [cmpS],by simp [cmpS],by simp [cmpS],by simp [cmpS]⟩
 | [],_ :: _,[]=>⟨by simp [cmpS],by simp [cmpS],by simp [cmpS],by simp [cmpS],by simp [cmpS]⟩
 | [],_ :: _,_ :: _=>⟨by simp [cmpS],by simp [cmpS],by simp [cmpS],by simp [cmpS],by simp [cmpS]⟩
 | _ :: _,[],[]=>⟨by simp [cmpS],by simp [cmpS],by simp [cmpS],by simp [cmpS],by simp [cmpS]⟩
 | _ :: _,[],_ :: _=>⟨by simp [cmpS],by simp [cmpS],by simp [cmpS],by simp [cmpS],by simp [cmpS]⟩
 | _ :: _,_ :: _,[]=>⟨by simp [cmpS],by simp [cmpS],by simp [cmpS],by simp [cmpS],by simp [cmpS]⟩
 | x :: a,y :: b,z :: c=>by
  rw [cmpS_lex,cmpS_lex,cmpS_lex]
  exact (cmpI_tr _ _ _).lex fun _ _=>cmpS_tr a b c
theorem cmpS_anti : ∀ (a b : List UInt8),cmpS b a = - cmpS a b
 | [],[]=>rfl
 | [],_ :: _=>rfl
 | _ :: _,[]=>rfl
 | x :: a,y :: b=>by rw [cmpS_lex,cmpS_lex];exact lex_anti (cmpI_anti _ _) (cmpS_anti a b)
theorem cmpS_zero : ∀ (a b : List UInt8),cmpS a b = 0 ↔ a = b
 | [],[]=>by simp [cmpS]
 | [],_ :: _=>by simp [cmpS]
 | _ :: _,[]=>by simp [cmpS]
 | x :: a,y :: b=>by
  rw [cmpS_lex,lex_zero,cmpI_zero,cmpS_zero a b]
  constructor
  ·rintro ⟨h1,h2⟩
   have : x = y:=UInt8.toNat_inj.1 (by omega)
   rw [this,h2]
  ·intro h;injection h with h1 h2;exact ⟨by rw [h1],h2⟩
theorem single_lex (a b : D) : singleD a b = lex (cmpI (vk a) (vk b)) (if vk a == 3 then cmpS (vs a) (vs b) else cmpI (vi a) (vi b)):=by
 unfold singleD singleI lex
 by_cases h : vk a = vk b
 ·simp [h,cmpI_self]
 ·simp [h,cmpI_ne h]
theorem single_tr (a b c : D) : Tr (singleD a b) (singleD b c) (singleD a c):=by
 rw [single_lex,single_lex,single_lex]
 refine (cmpI_tr _ _ _).lex fun h1 h2=>?_
 rw [cmpI_zero] at h1 h2
 rw [<- h1]
 split
 ·exact cmpS_tr _ _ _
 ·exact cmpI_tr _ _ _
theorem single_anti (a b : D) : singleD b a = - singleD a b:=by
 rw [single_lex,single_lex]
 by_cases h : vk a = vk b
 ·rw [h]
  refine lex_anti (cmpI_anti _ _) ?_
  split
  ·exact cmpS_anti _ _
  ·exact cmpI_anti _ _
 ·have h1:=cmpI_ne h
  have h2:=cmpI_ne (Ne.symm h)
  unfold lex
  simp only [bne_iff_ne,ne_eq,h1,not_false_eq_true,if_true,h2]
  exact cmpI_anti _ _
theorem single_zero {a b : D} (ha : one1 a = true) (hb : one1 b = true) : singleD a b = 0 ↔ vk a = vk b /\ vi a = vi b /\ vs a = vs b:=by
 obtain ⟨_,a1,a2,_⟩:=plain_facts ha
 obtain ⟨_,b1,b2,_⟩:=plain_facts hb
 rw [single_lex,lex_zero,cmpI_zero]
 by_cases h : vk a = vk b
 ·by_cases h3 : vk a = 3
  ·rw [a1 h3,b1 (by omega)]
   simp [h,show vk b = 3 by omega,cmpS_zero]
  ·rw [a2 h3,b2 (by omega)]
   have : ¬ vk b = 3:=by omega
   simp [h,this,cmpI_zero]
 ·simp [h]
end GP
namespace GP
open Go
variable {P : Program} [HasG P]
def XU (P : Program) [HasG P] (u : List FuncId) (l : Fs) (m : FsH) (e : FsE) : Pred:=fun f a H T Q=>if u.contains f = true then Snd P f a H T Q else XE l m e f a H T Q
theorem XU.X {u : List FuncId} {l : Fs} {m : FsH} {e : FsE} (k : Ok P l) (k' : OkH P m) (k'' : OkE P e) : ∀ f args H T Q Q',(∀ r H T,Q r H T -> Q' r H T) -> XU P u l m e f args H T Q -> Snd P f args H T Q':=by
 intro f args H T Q Q' hQ h
 unfold XU at h
 split at h
 ·exact Snd.mono _ _ _ _ _ _ hQ h
 ·exact XE.X k k' k'' f args H T Q Q' hQ h
theorem XU_mono (u : List FuncId) (l : Fs) (m : FsH) (e : FsE) : Mono (XU P u l m e):=by
 intro f args H T Q Q' hQ h
 unfold XU at h ⊢
 split at h
 ·rename_i c;rw [if_pos c];exact Snd.mono _ _ _ _ _ _ hQ h
 ·rename_i c;rw [if_neg c];exact XE_mono l m e _ _ _ _ _ _ hQ h
theorem XU_eq (u : List FuncId) (l : Fs) (m : FsH) (e : FsE) (f : FuncId) (args : List D) (H : Hp) (T : Tk) (Q : Post) : XU P u l m e f args H T Q = if u.contains f = true then Snd P f args H T Q else orX Q H T (look l f (D.eraseL args)) (lookH m H f (D.eraseL args)) (lookE e H f (D.eraseL args)):=by
 unfold XU
 rw [XE_eq]
theorem pcallU {u : List FuncId} {l : Fs} {m : FsH} {e : FsE} (hm : MonoH m) (args : List D) (K : D -> S -> Prop) (s : S) (f : FuncId) (first cap : List D) :
  pcallK (XU P u l m e) args K s (.fn f first cap) = if (u.contains f || inE e f) = true then pcallN (XU P u l m e) args K s (.fn f first cap) else orK K s (look l f (D.eraseL (first ++ args ++ cap))) (lookH m s.H f (D.eraseL (first ++ args ++ cap))):=by
 cases hu : u.contains f with
 | true=>rfl
 | false =>
  simp only [Bool.false_or]
  have hx : ∀ a H T Q,XU P u l m e f a H T Q = XE l m e f a H T Q:=by
   intro a H T Q;unfold XU;rw [hu];rfl
  cases he : inE e f with
  | true=>rfl
  | false =>
   rw [if_neg (by simp)]
   have:=pcallE (l:=l) (e:=e) hm args K s f first cap
   rw [he,if_neg (by simp)] at this
   rw [<- this]
   simp only [pcallK,eq_iff_iff]
   unfold Pure
   simp only [hx]
def callQ (K : D -> S -> Prop) (t : Nat -> D) : Post:=fun r H T=>K r ⟨t,H,T⟩
theorem callK_fn (X : Pred) (args : List D) (K : D -> S -> Prop) (s : S) (f : FuncId) (first cap : List D) : callK X args K s (.fn f first cap) = X f (first ++ args ++ cap) s.H s.T (callQ K s.t):=id rfl
theorem callQ_eq (K : D -> S -> Prop) (t : Nat -> D) (r : D) (H : Hp) (T : Tk) : callQ K t r H T = K r ⟨t,H,T⟩:=id rfl
def orL (Q : Post) (H : Hp) (T : Tk) : Option D -> Prop
 | some r=>Q r H T
 | none=>False
theorem XL_eq (l : Fs) (f : FuncId) (args : List D) (H : Hp) (T : Tk) (Q : Post) : XL l f args H T Q = orL Q H T (look l f (D.eraseL args)):=by
 unfold XL orL
 cases look l f (D.eraseL args) <;> rfl
theorem orL_s (Q : Post) (H : Hp) (T : Tk) (r : D) : orL Q H T (some r) = Q r H T:=id rfl
attribute [go_sem] callK_fn callQ_eq XL_eq orL_s XE_eq orX_s orX_n orX_e orE_s lookE_nil lookE_cons inE_nil inE_cons lookH_nil lookH_cons orK_s orK_n
theorem okEX_of {X : Pred} (hX : ∀ f args H T Q Q',(∀ r H T,Q r H T -> Q' r H T) -> X f args H T Q -> Snd P f args H T Q') {f : FuncId} {n : Nat} {rs : List (Sum Nat (Nat × Bool × Nat))} {cc : C} (hf : Fn P f n rs cc) {φ : Hp -> List D -> Option (D × Hp)}
  (h : ∀ H args r H1,φ H args = some (r,H1) -> args.length <= n /\ r.cl H1.length 0 = true /\ Closed H H1 0 /\ ∀ T,W X cc (endQ rs (LeavesE r H1 T)) ⟨argT args,H,T⟩) : OkAtE P f φ:=by
 intro H args r H1 hr args' he T Q hQ
 obtain ⟨h1,h2,h4,h3⟩:=h H args r H1 hr
 have hS : Snd P f args H T (LeavesE r H1 T):=call_of hf h1 (W_mono hX (fun _ _ h=>h) (h3 T))
 intro c w vs kg k1 k2 k3
 have k3' : Reps c args vs:=by rw [<- he];exact k3.erase
 have hcl:=D.cl_mono (Nat.le_refl H1.length) (Nat.zero_le T.length) r h2
 have hC : Closed H H1 T.length:=⟨h4.1,fun o x cs a b=>(h4.2 o x cs a b).imp id (D.clL_mono (Nat.le_refl _) (Nat.zero_le _) cs)⟩
 rcases hS c w vs kg k1 k2 k3' with ⟨g1,g2⟩ | ⟨v,w',g1,g2⟩
 ·exact .inl ⟨g1,g2.mono fun e w' k=>CallPost.forgetE k1 k2 hcl hC hQ k⟩
 ·exact .inr ⟨v,w',g1,CallPost.forgetE k1 k2 hcl hC hQ g2⟩
theorem okFX_of {X : Pred} (hX : ∀ f args H T Q Q',(∀ r H T,Q r H T -> Q' r H T) -> X f args H T Q -> Snd P f args H T Q') {f : FuncId} {n : Nat} {rs : List (Sum Nat (Nat × Bool × Nat))} {cc : C} (hf : Fn P f n rs cc) {φ : List D -> Option D}
  (h : ∀ args r,φ args = some r -> args.length <= n /\ r.cl 0 0 = true /\ ∀ H T,W X cc (endQ rs (LeavesE r H T)) ⟨argT args,H,T⟩) : OkAt P f φ:=by
 intro args r hr args' he H T Q hQ
 refine okEX_of hX hf (φ:=fun H a=>(φ a).map fun r=>(r,H)) (fun H a r H1 hr=>?_) H args r H (by simp [hr]) args' he T Q hQ
 cases ha : φ a with
 | none=>rw [ha] at hr;cases hr
 | some r' =>
  rw [ha] at hr;simp only [Option.map_some,Option.some.injEq,Prod.mk.injEq] at hr
  obtain ⟨rfl,rfl⟩:=hr
  obtain ⟨h1,h2,h3⟩:=h a r' ha
  exact ⟨h1,D.cl_mono (Nat.zero_le _) (Nat.le_refl _) r' h2,Closed.refl _ _,fun T=>h3 H T⟩
theorem Ext.set {H B : Hp} (h : Ext H B) {o : Nat} (ho : H.length <= o) (x : Ob) : Ext H (B.set o x):=by
 obtain ⟨L,rfl⟩:=h
 exact ⟨L.set (o - H.length) x,by rw [List.set_append_right _ _ ho]⟩
theorem leavesE_end {r r0 : D} {H B : Hp} {T U : Tk} (hr : Crs r r0) (h : Ext H B) (k : ExtT T U) : LeavesE r0 H T r B U:=by
 obtain ⟨L,rfl⟩:=h;obtain ⟨M,rfl⟩:=k
 exact ⟨r,_,.refl _ _,hr,⟨H,L,rfl,SameH.refl H⟩,M,rfl⟩
theorem leavesE_fz {r r0 : D} {H B : Hp} {T U : Tk} (o : Nat) (cs : List D) (ho : B[o]? = some (.row cs)) (hl : H.length <= o) (hr : Crs (r.fz o cs) r0) (h : Ext H B) (k : ExtT T U) : LeavesE r0 H T r B U:=by
 obtain ⟨L,e⟩:=h.set hl .dead;obtain ⟨M,rfl⟩:=k
 exact ⟨_,_,.step o cs ho (.refl _ _),hr,⟨H,L,e,SameH.refl H⟩,M,rfl⟩
@[go_sem] theorem fld_f (off n : Nat) (cs : List D) : fld false off n (.agg cs) = cs[off]?:=id rfl
@[go_sem] theorem fld_t (off n : Nat) (cs : List D) : fld true off n (.agg cs) = if off + n <= cs.length then some (.agg ((cs.take (off + n)).drop off)) else none:=id rfl
end GP
namespace Go.Proofs
open Go.Shelf Go.RowKit Go.Lib Go.Sort
shelf_lay_g SlLaysF0.n6 Slsf 6 at Tryz 248 as Tryz.sortVal
end Go.Proofs
namespace GP
open Go Go.Proofs
set_option maxRecDepth 100000
def φeqv : List D -> Option D
 | [a,b]=>if a.isV = true /\ b.isV = true /\ leaf a = true /\ leaf b = true then some (.bool (ord0 a b == 0)) else none
 | _=>none
theorem ok250 [HasG Tryz.prog] : OkAt Tryz.prog 250 φeqv:=by
 refine ok_of (l:=[(64,φOrd dom0 f0)]) (.cons ok64a .nil) fn250 fun args r h=>?_
 unfold φeqv at h
 split at h
 ·split at h
  ·rename_i a b hab
   injection h with h;subst h
   obtain ⟨ha,hb,hla,hlb⟩:=hab
   have p:=ord_leaf ha hb hla hlb
   refine ⟨by simp,by simp [D.cl],fun H T=>?_⟩
   obtain ⟨k1,i1,s1,n1,l1,rfl,z1,y1,hV1⟩:=isV_elim ha
   obtain ⟨k2,i2,s2,n2,l2,rfl,z2,y2,hV2⟩:=isV_elim hb
   have r1:=erase_of_isV hV1
   have r2:=erase_of_isV hV2
   simp only [mkV] at p
   simp +contextual (maxSteps:=10000000) only [c250,mkV,p,r1,r2,go_sem]
  ·cases h
 ·cases h
def φins0 : List D -> Option D
 | [.nils,.int .i64 a,.int .i64 b,.fn 64 [] []]=>if a = 0 /\ b = 0 then some (.tup []) else none
 | [.sl none [],.int .i64 a,.int .i64 b,.fn 64 [] []]=>if a = 0 /\ b = 0 then some (.tup []) else none
 | [.ms true 4 _ _ 0 _,.int .i64 a,.int .i64 b,.fn 64 [] []]=>if a = 0 /\ b = 0 then some (.tup []) else none
 | _=>none
theorem ok253 [HasG Tryz.prog] : OkAt Tryz.prog 253 φins0:=by
 refine ok_of (l:=[]) .nil fn253 fun args r h=>?_
 unfold φins0 at h
 split at h <;> first | (cases h;done) | skip
 all_goals
  split at h
  ·rename_i hab
   obtain ⟨rfl,rfl⟩:=hab
   injection h with h;subst h
   refine ⟨by simp,by simp [D.cl,D.clL],fun H T=>?_⟩
   simp +contextual (maxSteps:=10000000) only [c253,go_sem]
   refine W_for (fun i s'=>s'.t 8 = .int .i64 1 /\ s'.t 2 = .int .i64 0 /\ s'.H = H /\ s'.T = T /\ i <= 0) 0 ⟨0,by simp [upd,argT,wrap_of]⟩ (fun i s h=>h.2.2.2.2) ?_ (XL_mono _)
   rintro i ⟨t,B,T'⟩ ⟨r8,r2,rfl,rfl,hi⟩
   simp only at r8 r2
   have d1 : decide ((1 : Int) < 0) = false:=by decide
   simp +contextual (maxSteps:=10000000) only [r8,r2,d1,go_sem]
  ·cases h
def φpdq0 : List D -> Option D
 | [.nils,.int .i64 a,.int .i64 b,.int .i64 _,.fn 64 [] []]=>if a = 0 /\ b = 0 then some (.tup []) else none
 | [.sl none [],.int .i64 a,.int .i64 b,.int .i64 _,.fn 64 [] []]=>if a = 0 /\ b = 0 then some (.tup []) else none
 | [.ms true 4 _ _ 0 _,.int .i64 a,.int .i64 b,.int .i64 _,.fn 64 [] []]=>if a = 0 /\ b = 0 then some (.tup []) else none
 | _=>none
theorem ok251 [HasG Tryz.prog] : OkAt Tryz.prog 251 φpdq0:=by
 refine ok_of (l:=[(253,φins0)]) (.cons ok253 .nil) fn251 fun args r h=>?_
 have p1 : φins0 [.nils,.int .i64 0,.int .i64 0,.fn 64 [] []] = some (.tup []):=rfl
 have p2 : φins0 [.sl none [],.int .i64 0,.int .i64 0,.fn 64 [] []] = some (.tup []):=rfl
 have p3 : ∀ o off cap,φins0 [.ms true 4 o off 0 cap,.int .i64 0,.int .i64 0,.fn 64 [] []] = some (.tup []):=fun _ _ _=>rfl
 have w0 : IntKind.i64.wrap (0 - 0) = 0:=by decide
 have d0 : decide ((0 : Int) <= 12) = true:=by decide
 unfold φpdq0 at h
 split at h <;> first | (cases h;done) | skip
 all_goals
  split at h
  ·rename_i z hab
   obtain ⟨rfl,rfl⟩:=hab
   injection h with h;subst h
   refine ⟨by simp,by simp [D.cl,D.clL],fun H T=>?_⟩
   simp +contextual (maxSteps:=10000000) only [c251,go_sem]
   refine W_for (fun i s'=>(s'.t 0 = .nils ∨ s'.t 0 = .sl none [] ∨ ∃ o off cap,s'.t 0 = .ms true 4 o off 0 cap) /\ s'.t 1 = .int .i64 0 /\ s'.t 2 = .int .i64 0 /\ s'.t 4 = .fn 64 [] [] /\ s'.H = H /\ s'.T = T /\ i <= 0) 0 ⟨0,by simp [upd,argT],by simp [upd,argT],by simp [upd,argT],by simp [upd,argT],rfl,rfl,Nat.le_refl _⟩ (fun i s h=>h.2.2.2.2.2.2) ?_ (XL_mono _)
   rintro i ⟨t,B,T'⟩ ⟨r0,r1,r2,r4,rfl,rfl,hi⟩
   simp only at r0 r1 r2 r4
   rcases r0 with r0 | r0 | ⟨o,off,cap,r0⟩
   ·simp +contextual (maxSteps:=10000000) only [r0,r1,r2,r4,p1,w0,d0,go_sem]
   ·simp +contextual (maxSteps:=10000000) only [r0,r1,r2,r4,p2,w0,d0,go_sem]
   ·simp +contextual (maxSteps:=10000000) only [r0,r1,r2,r4,p3,w0,d0,go_sem]
  ·cases h
theorem ok_fun {P : Program} [HasG P] {f : FuncId} {φ : List D -> Option D} (h : ∀ args r,φ args = some r -> ∀ (c : Cx) (w : World) (vs : List Value),Reps c args vs -> (callFunc f vs.toArray).run P w = .ok (.enter f vs.toArray) w ∧
   Calls P f vs.toArray w fun e w'=>∃ v,e = .returned v /\ Rep c r v /\ w' = w) : OkAt P f φ:=by
 intro args r hr args' he H T Q hQ c w vs hg k1 k2 k3
 have k3' : Reps c args vs:=by rw [<- he];exact k3.erase
 obtain ⟨g1,g2⟩:=h args r hr c w vs k3'
 refine .inl ⟨g1,g2.mono ?_⟩
 rintro e w' ⟨v,rfl,h1,rfl⟩
 exact ⟨v,rfl,r,H,T,c,hQ,h1,k1,Cx.le.refl c,k2,Below.refl _ _⟩
def φlen0 : List D -> Option D
 | [.int .u64 n]=>if n = 0 then some (.int .i64 0) else none
 | _=>none
theorem ok252 [HasG Tryz.prog] : OkAt Tryz.prog 252 φlen0:=by
 refine ok_fun fun args r h c w vs hr=>?_
 unfold φlen0 at h
 split at h
 ·split at h
  ·rename_i hn
   subst hn
   injection h with h;subst h
   match vs,hr.len with
   | [v],_ =>
    have h1:=hr.rep 0 (by simp) (by simp)
    simp only [List.getElem_cons_zero] at h1
    cases h1
    have e252 : ∀ args w,(callFunc 252 args).run Tryz.prog w = .ok (.enter 252 args) w:=enters_of Tryz.func252 (by kernel_rfl) rfl
    refine ⟨e252 _ _,?_⟩
    have:=Go.Proofs.Any.bits_Len (SlLaysF0.n15.bits (P:=Tryz.prog) (ρ:=Tryz.sortVal_ren) { Tryz.sortVal with }) (0 : Int) w (by omega) (by omega)
    refine Calls.mono (show Calls Tryz.prog 252 _ _ _ from this) ?_
    rintro e w' ⟨rfl,rfl⟩
    exact ⟨_,rfl,.int _ _,rfl⟩
  ·cases h
 ·cases h
def φsort0 : List D -> Option D
 | [.nils,.fn 64 [] []]=>some (.tup [])
 | [.sl none [],.fn 64 [] []]=>some (.tup [])
 | [.ms true 4 _ _ 0 _,.fn 64 [] []]=>some (.tup [])
 | _=>none
theorem ok248 [HasG Tryz.prog] : OkAt Tryz.prog 248 φsort0:=by
 refine ok_of (l:=[(251,φpdq0),(252,φlen0)]) (.cons ok251 (.cons ok252 .nil)) fn248 fun args r h=>?_
 have p1 : φpdq0 [.nils,.int .i64 0,.int .i64 0,.int .i64 0,.fn 64 [] []] = some (.tup []):=rfl
 have p2 : φpdq0 [.sl none [],.int .i64 0,.int .i64 0,.int .i64 0,.fn 64 [] []] = some (.tup []):=rfl
 have p4 : ∀ o off cap,φpdq0 [.ms true 4 o off 0 cap,.int .i64 0,.int .i64 0,.int .i64 0,.fn 64 [] []] = some (.tup []):=fun _ _ _=>rfl
 have p3 : φlen0 [.int .u64 0] = some (.int .i64 0):=rfl
 have w0 : IntKind.u64.wrap 0 = 0:=by decide
 unfold φsort0 at h
 split at h <;> first | (cases h;done) | skip
 all_goals
  injection h with h;subst h
  refine ⟨by simp,by simp [D.cl,D.clL],fun H T=>?_⟩
  simp +contextual (maxSteps:=10000000) only [c248,p1,p2,p3,p4,w0,go_sem]
end GP
