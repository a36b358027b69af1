import Derived.Lib.ItoaNum
import Derived.Lib.LaidTab
import Derived.Test.YtainhmbnbgonhaaGreatDoorProg
import Derived.Test.YtainhmbnbgonhaaGreatDoorM5
import Derived.Test.YtainhmbnbgonhaaGreatDoorM6
set_option linter.unusedSimpArgs false
set_option linter.unnecessarySimpa false
namespace GP
open Go Go.Proofs
open Rd O
set_option maxRecDepth 100000
def c14 : C :=
 (Rg ([I1 2 (.mv KF)])
 (.seq (Rg ([Ip 9 43 [],I1 10 (.un .not (t 9)),Im 11 10,Jm 12 11 false 0,I3 13 11 (.lens (t 12)),I3 14 11 (.bin .gtr (t 13) (Ki 600)),I1 15 (.pick (t 11) KT (t 14))])
 (.cond (t 15)
 (Rg ([Ip 16 43 [],Im 2 16])
 .ret)
 .skip))
 (Rg ([Im 18 0,Ip 19 41 [(t 18)],Im 17 19,Ie 20 0 17,Ie 21 1 17,Ie 22 2 17,I1 3 (.alloc [.nils,(.str []),.nils]),Is 3 3 20,Im 4 21,Im 5 22])
 (Rg ([Im 24 0,Ip 25 44 [(t 24)],Im 23 25,Ie 26 0 23,Ie 27 1 23,Ie 28 2 23,Im 6 26,Im 7 27,Im 8 28])
 (.seq (Rg ([Im 29 8,I1 30 (.bin .neq (t 29) (Ki 0))])
 (.cond (t 30)
 (Rg ([Im 31 5,Im 32 8,I1 33 (.bin .eql (t 31) (t 32)),Im 34 33,Jm 35 34 true 4,Jm 36 34 true 7,I2 37 34 (.bin .eql (t 35) (t 36)),I1 38 (.pick (t 34) (t 37) KF),Im 2 38])
 .ret)
 .skip))
 (.seq (Rg ([Im 39 5,I1 40 (.bin .neq (t 39) (Ki 0))])
 (.cond (t 40)
 (Rg ([Im 41 4,I1 42 (.bin .geq (t 41) (Ki 0)),Im 43 42,Jm 44 43 true 4,Jm 45 43 true 0,I2 46 43 (.lens (t 45)),I2 47 43 (.bin .leq (t 44) (t 46)),I1 48 (.pick (t 43) (t 47) KF),Im 49 48,I2 50 49 (.load true 3 (t 3)),I2 51 49 (.build [.nils,(.str []),.nils] []),I2 52 49 (.pcall (Kf 32) [(t 50),(t 51)]),I1 53 (.pick (t 49) (t 52) KF),Im 2 53])
 .ret)
 .skip))
 (Rg ([Ia 54 3 3,Ip 55 29 [(t 54)],Im 56 55,I2 57 56 (.load true 3 (t 3)),I2 58 56 (.pcall (Kf 42) [(t 57)]),I2 59 56 (.bin .eql (t 58) (Ki 0)),I1 60 (.pick (t 56) (t 59) KF),Im 2 60])
 .ret)))))))
theorem A0B : Fn Tryz.prog 14 61 [.inl 2] c14:=aJ Tryz.func14 Tryz.ntmps14 Hq0
def c17 : C :=
 (Rg ([I1 2 (.mv KF)])
 (Rg ([Ip 3 48 [],Im 4 0,Ip 5 47 [(t 3),(t 4)],Im 2 5])
 .ret))
theorem Zy : Fn Tryz.prog 17 6 [.inl 2] c17:=aJ Tryz.func17 Tryz.ntmps17 Hq0
def c26 : C :=
 (Rg ([I1 1 (.box (t 0)),I1 2 (.mv (Ki 0))])
 (Rg ([I1 3 (.mv (Ki 0))])
 (.seq (Rg ([If 6 7 1,Il 7 6,Iz 8 7,I1 9 (.mv (Ki 0))])
 (.block 0
 (.loop
 (Rg ([I1 10 (.bin .lss (t 9) (t 8))])
 (.seq (.cond (t 10)
 .skip
 (.exit 0))
 (.seq (.block 1
 (Rg ([I1 11 (.iaddr 8 (t 7) (t 9)),Ia 12 8 11,I1 5 (.alloc [(.str []),(.int .i64 0),(.int .i64 0),(.str []),.nils,(.str []),(.str []),.nils]),Is 8 5 12])
 (.reg [Im 13 3,Ia 14 8 5,Ip 15 26 [(t 14)],I1 16 (.mx (t 13) (t 15)),Im 3 16])))
 (.reg [I1 17 (.bin .add (t 9) (Ki 1)),Im 9 17])))))))
 (Rg ([Im 18 3,I1 19 (.bin .add (t 18) (Ki 1)),Im 2 19])
 .ret))))
theorem A0M : Fn Tryz.prog 26 20 [.inl 2] c26:=aJ Tryz.func26 Tryz.ntmps26 Hq0
def c29 : C :=
 (Rg ([I1 1 (.box (t 0)),I1 2 (.mv KF)])
 (.seq (Rg ([If 9 1 1,Il 10 9,Ip 11 59 [(t 10)],Ip 12 57 [(t 11)],I1 13 (.un .not (t 12))])
 (.cond (t 13)
 (Rg ([I1 2 (.mv KF)])
 .ret)
 .skip))
 (.seq (Rg ([I1 3 (.mv (Ki 0))])
 (.block 0
 (.loop
 (.seq (Rg ([Im 14 3,If 15 0 1,Il 16 15,Iz 17 16,I1 18 (.bin .lss (t 14) (t 17))])
 (.cond (t 18)
 .skip
 (.exit 0)))
 (.seq (.block 1
 (Rg ([If 21 0 1,Il 22 21,Im 23 3,I1 24 (.iaddr 4 (t 22) (t 23)),Ia 25 4 24,I1 4 (.alloc [(.str []),(.str []),(.int .i64 0),(.bool false)]),Is 4 4 25])
 (Rg ([If 26 0 4,Il 27 26,Ip 28 55 [(t 27)],I1 29 (.un .not (t 28)),Im 30 29,Jf 31 30 false 1 4,Jl 32 30 false 31,I3 33 30 (.pcall (Kf 56) [(t 32)]),I3 34 30 (.un .not (t 33)),I1 35 (.pick (t 30) KT (t 34)),Im 36 35,Jf 37 36 false 2 4,Jl 38 36 false 37,I3 39 36 (.bin .lss (t 38) (Ki 1)),I1 40 (.pick (t 36) KT (t 39)),Im 41 40,Jf 42 41 false 2 4,Jl 43 41 false 42,I3 44 41 (.bin .gtr (t 43) (Ki 4)),I1 45 (.pick (t 41) KT (t 44))])
 (.cond (t 45)
 (Rg ([I1 2 (.mv KF)])
 .ret)
 .skip))))
 (.reg [Im 19 3,I1 20 (.bin .add (t 19) (Ki 1)),Im 3 20]))))))
 (.seq (Rg ([I1 5 (.mv (Ki 0))])
 (.block 2
 (.loop
 (.seq (Rg ([Im 46 5,If 47 2 1,Il 48 47,Iz 49 48,I1 50 (.bin .lss (t 46) (t 49))])
 (.cond (t 50)
 .skip
 (.exit 2)))
 (.seq (.block 3
 (Rg ([If 53 2 1,Il 54 53,Im 55 5,I1 56 (.iaddr 13 (t 54) (t 55)),Ia 57 13 56,I1 6 (.alloc [(.str []),(.str []),(.str []),(.bool false),(.str []),(.int .i64 0),(.int .i64 0),(.str []),.nils,(.str []),(.str []),.nils,.nils]),Is 13 6 57])
 (.seq (Rg ([If 58 0 6,Il 59 58,Ip 60 56 [(t 59)],I1 61 (.un .not (t 60)),Im 62 61,Jf 63 62 false 1 6,Jl 64 62 false 63,I3 65 62 (.pcall (Kf 56) [(t 64)]),I3 66 62 (.un .not (t 65)),I1 67 (.pick (t 62) KT (t 66)),Im 68 67,Jf 69 68 false 2 6,Jl 70 68 false 69,I3 71 68 (.pcall (Kf 59) [(t 70)]),I3 72 68 (.pcall (Kf 57) [(t 71)]),I3 73 68 (.un .not (t 72)),I1 74 (.pick (t 68) KT (t 73)),Im 75 74,Jf 76 75 false 3 6,Jl 77 75 false 76,Jf 78 75 false 4 6,I3 79 75 (.load true 8 (t 78)),I3 80 75 (.pcall (Kf 66) [(t 77),(t 79)]),I3 81 75 (.un .not (t 80)),I1 82 (.pick (t 75) KT (t 81))])
 (.cond (t 82)
 (Rg ([I1 2 (.mv KF)])
 .ret)
 .skip))
 (Rg ([I1 7 (.mv (Ki 0))])
 (.block 4
 (.loop
 (.seq (Rg ([Im 83 7,If 84 12 6,Il 85 84,Iz 86 85,I1 87 (.bin .lss (t 83) (t 86))])
 (.cond (t 87)
 .skip
 (.exit 4)))
 (.seq (.block 5
 (Rg ([If 90 12 6,Il 91 90,Im 92 7,I1 93 (.iaddr 13 (t 91) (t 92)),Ia 94 13 93,I1 8 (.alloc [(.bool false),(.str []),(.bool false),(.str []),(.int .i64 0),(.int .i64 0),(.str []),.nils,(.str []),(.str []),.nils,.nils,.nils]),Is 13 8 94])
 (Rg ([If 95 1 8,Il 96 95,Ip 97 56 [(t 96)],I1 98 (.un .not (t 97)),Im 99 98,Jf 100 99 false 2 8,Jl 101 99 false 100,Jf 102 99 false 3 8,I3 103 99 (.load true 8 (t 102)),I3 104 99 (.pcall (Kf 66) [(t 101),(t 103)]),I3 105 99 (.un .not (t 104)),I1 106 (.pick (t 99) KT (t 105)),Im 107 106,Jf 108 107 false 11 8,Jl 109 107 false 108,I3 110 107 (.pcall (Kf 67) [(t 109)]),I3 111 107 (.un .not (t 110)),I1 112 (.pick (t 107) KT (t 111)),Im 113 112,Jf 114 113 false 12 8,Jl 115 113 false 114,I3 116 113 (.pcall (Kf 67) [(t 115)]),I3 117 113 (.un .not (t 116)),I1 118 (.pick (t 113) KT (t 117))])
 (.cond (t 118)
 (Rg ([I1 2 (.mv KF)])
 .ret)
 .skip))))
 (.reg [Im 88 7,I1 89 (.bin .add (t 88) (Ki 1)),Im 7 89])))))))))
 (.reg [Im 51 5,I1 52 (.bin .add (t 51) (Ki 1)),Im 5 52]))))))
 (Rg ([I1 2 (.mv KT)])
 .ret)))))
theorem A0R : Fn Tryz.prog 29 119 [.inl 2] c29:=aJ Tryz.func29 Tryz.ntmps29 Hq0
def c59 : C :=
 (Rg ([I1 2 (.alloc [(.int .i64 0),(.str []),(.int .i64 0)])])
 (Rg ([Im 3 0,I1 4 (.build [(.int .i64 0),(.str []),(.int .i64 0)] [(0,1,(Ki 1)),(1,1,(t 3))]),Is 3 2 4])
 .ret))
theorem A0K : Fn Tryz.prog 59 5 [.inr (2,true,3)] c59:=aJ Tryz.func59 Tryz.ntmps59 Hq0
def c66 : C :=
 (Rg ([I1 3 (.box (t 1)),I1 4 (.mv KF)])
 (.seq (Rg ([Im 5 0,I1 6 (.un .not (t 5))])
 (.cond (t 6)
 (Rg ([Ia 7 8 3,I1 8 (.build [(.str []),(.int .i64 0),(.int .i64 0),(.str []),.nils,(.str []),(.str []),.nils] []),Ip 9 20 [(t 7),(t 8)],Im 4 9])
 .ret)
 .skip))
 (Rg ([Ia 10 8 3,Ip 11 21 [(t 10)],Im 12 11,I2 13 12 (.load true 8 (t 3)),I2 14 12 (.pcall (Kf 22) [(t 13)]),I2 15 12 (.bin .leq (t 14) (Ki 12)),I1 16 (.pick (t 12) (t 15) KF),Im 4 16])
 .ret)))
theorem A1x : Fn Tryz.prog 66 17 [.inl 4] c66:=aJ Tryz.func66 Tryz.ntmps66 Hq0
def c71 : C :=
 (Rg ([Im 4 0,Im 5 1,Ic 6 69 [(t 4),(t 5)],I1 7 (.un .not (t 6))])
 (.cond (t 7)
 (.reg [Im 8 0,Im 9 0,In 10 9,If 11 1 10,Il 12 11,Ic 13 105 [(t 8),(t 12),(Ki 2)]])
 .skip))
theorem A0l : Fn Tryz.prog 71 14 [] c71:=aJ Tryz.func71 Tryz.ntmps71 Hq0
def c91 : C :=
 (Rg ([I1 4 (.mv (Ki 0))])
 (.seq (.block 0
 (.loop
 (.seq (Rg ([Im 5 1,Im 6 0,I1 7 (.lens (t 6)),I1 8 (.bin .lss (t 5) (t 7))])
 (.cond (t 8)
 .skip
 (.exit 0)))
 (.block 1
 (Rg ([Im 9 0,Im 10 1,I1 11 (.idxs (t 9) (t 10))])
 (.block 2
 (.seq (Rg ([I1 14 (.bin .eql (t 11) (k (.int .u8 32))),Im 13 14])
 (.cond (t 13)
 .skip
 (.reg [I1 15 (.bin .eql (t 11) (k (.int .u8 10))),Im 13 15])))
 (.cond (t 13)
 (.reg [Im 16 1,I1 17 (.bin .add (t 16) (Ki 1)),Im 1 17])
 (Rg ([I1 19 (.bin .eql (t 11) (k (.int .u8 35))),Im 18 19])
 (.cond (t 18)
 (.reg [Im 20 1,Im 21 0,Im 22 1,Ip 23 144 [(t 21),(t 22),(Kf 145)],I1 24 (.bin .add (t 20) (t 23)),Im 1 24])
 (Rg ([Im 12 1,Im 4 12])
 .ret)))))))))))
 (Rg ([Im 25 1,Im 4 25])
 .ret)))
theorem Za : Fn Tryz.prog 91 26 [.inl 4] c91:=aJ Tryz.func91 Tryz.ntmps91 Hq0
def UF : C :=
 (Rg ([I1 4 (.mv (Ks ([]))),I1 5 (.mv (Ki 0))])
 (Rg ([I1 6 (.mv KN)])
 (.seq (Rg ([Im 9 1,I1 10 (.bin .add (t 9) (Ki 1)),Im 7 10])
 (.block 0
 (.loop
 (.seq (Rg ([Im 11 7,Im 12 0,I1 13 (.lens (t 12)),I1 14 (.bin .lss (t 11) (t 13))])
 (.cond (t 14)
 .skip
 (.exit 0)))
 (.seq (.block 1
 (Rg ([Im 17 0,Im 18 7,I1 19 (.idxs (t 17) (t 18)),Im 8 19])
 (.seq (.block 2
 (Rg ([Im 21 8,I1 22 (.bin .eql (t 21) (k (.int .u8 34))),Im 20 22])
 (.cond (t 20)
 (Rg ([Im 23 6,I1 24 (.b2s (t 23)),Im 25 7,I1 26 (.bin .add (t 25) (Ki 1)),Im 27 1,I1 28 (.bin .sub (t 26) (t 27)),Im 4 24,Im 5 28])
 .ret)
 (Rg ([Im 30 8,I1 31 (.bin .eql (t 30) (k (.int .u8 92))),Im 29 31])
 (.cond (t 29)
 (Rg ([Im 32 7,I1 33 (.bin .add (t 32) (Ki 1)),Im 7 33])
 (.seq (Rg ([Im 34 7,Im 35 0,I1 36 (.lens (t 35)),I1 37 (.bin .eql (t 34) (t 36)),Im 38 37,Jm 39 38 false 0,Jm 40 38 false 7,I3 41 38 (.idxs (t 39) (t 40)),I3 42 38 (.bin .neq (t 41) (k (.int .u8 34))),Jm 43 38 false 42,Jm 44 43 true 0,Jm 45 43 true 7,I2 46 43 (.idxs (t 44) (t 45)),I2 47 43 (.bin .neq (t 46) (k (.int .u8 92))),I3 48 38 (.pick (t 43) (t 47) KF),I1 49 (.pick (t 38) KT (t 48))])
 (.cond (t 49)
 (Rg ([I1 4 (.mv (Ks ([]))),I1 5 (.mv (Ki 0))])
 .ret)
 .skip))
 (.reg [Im 50 0,Im 51 7,I1 52 (.idxs (t 50) (t 51)),Im 8 52])))
 (Rg ([Im 54 8,I1 55 (.bin .lss (t 54) (k (.int .u8 32))),Im 56 55,Jm 57 56 false 8,I3 58 56 (.bin .gtr (t 57) (k (.int .u8 126))),I1 59 (.pick (t 56) KT (t 58)),Im 53 59])
 (.cond (t 53)
 (Rg ([I1 4 (.mv (Ks ([]))),I1 5 (.mv (Ki 0))])
 .ret)
 .skip)))))))
 (Rg ([Im 60 6,Im 61 8,I1 62 (.bsl 1 [(t 61)]),I1 63 (.app false 1 1 (t 60) (t 62)),Im 6 63])
 (Rg ([Im 64 6,Iz 65 64,I1 66 (.bin .gtr (t 65) (Ki 64))])
 (.cond (t 66)
 (Rg ([I1 4 (.mv (Ks ([]))),I1 5 (.mv (Ki 0))])
 .ret)
 .skip))))))
 (.reg [Im 15 7,I1 16 (.bin .add (t 15) (Ki 1)),Im 7 16]))))))
 (Rg ([I1 4 (.mv (Ks ([]))),I1 5 (.mv (Ki 0))])
 .ret))))
theorem XV : Fn Tryz.prog 150 67 [.inl 4,.inl 5] UF:=aJ Tryz.func150 Tryz.ntmps150 Hq0
def Sz : C :=
 (Rg ([I1 0 (.mv KN)])
 (Rg ([I1 1 (.bsl 1 [(Ks ([100,101,110,121,95,111,118,101,114,114,105,100,101,115])),(Ks ([112,101,114,109,105,116,95,111,118,101,114,114,105,100,101,115])),(Ks ([102,105,114,115,116])),(Ks ([111,110,108,121,95,111,110,101])),(Ks ([100,101,110,121,95,117,110,108,101,115,115,95,112,101,114,109,105,116])),(Ks ([112,101,114,109,105,116,95,117,110,108,101,115,115,95,100,101,110,121]))]),Im 0 1])
 .ret))
theorem TZ : Fn Tryz.prog 156 2 [.inl 0] Sz:=aJ Tryz.func156 Tryz.ntmps156 Hq0
def TY : C :=
 (Rg ([I1 2 (.mv KF)])
 (Rg ([Im 3 0,I1 4 (.bin .geq (t 3) (k (.int .u8 97))),Im 5 4,Jm 6 5 true 0,I2 7 5 (.bin .leq (t 6) (k (.int .u8 122))),I1 8 (.pick (t 5) (t 7) KF),Im 2 8])
 .ret))
theorem Xv : Fn Tryz.prog 162 9 [.inl 2] TY:=aJ Tryz.func162 Tryz.ntmps162 Hq0
def Kr : C :=
 (Rg ([I1 2 (.mv (Ks ([]))),I1 3 (.mv KF)])
 (.seq (Rg ([Im 7 0,I1 8 (.lens (t 7)),I1 9 (.bin .lss (t 8) (Ki 2)),Im 10 9,Jm 11 10 false 0,I3 12 10 (.idxs (t 11) (Ki 0)),I3 13 10 (.bin .neq (t 12) (k (.int .u8 34))),I1 14 (.pick (t 10) KT (t 13)),Im 15 14,Jm 16 15 false 0,Jm 17 15 false 0,I3 18 15 (.lens (t 17)),I3 19 15 (.bin .sub (t 18) (Ki 1)),I3 20 15 (.idxs (t 16) (t 19)),I3 21 15 (.bin .neq (t 20) (k (.int .u8 34))),I1 22 (.pick (t 15) KT (t 21))])
 (.cond (t 22)
 (Rg ([I1 2 (.mv (Ks ([]))),I1 3 (.mv KF)])
 .ret)
 .skip))
 (Rg ([I1 4 (.mv (Ks ([])))])
 (.seq (Rg ([I1 5 (.mv (Ki 1))])
 (.block 0
 (.loop
 (.seq (Rg ([Im 23 5,Im 24 0,I1 25 (.lens (t 24)),I1 26 (.bin .sub (t 25) (Ki 1)),I1 27 (.bin .lss (t 23) (t 26))])
 (.cond (t 27)
 .skip
 (.exit 0)))
 (.seq (.block 1
 (Rg ([Im 30 0,Im 31 5,I1 32 (.idxs (t 30) (t 31)),Im 6 32])
 (.seq (Rg ([Im 33 6,I1 34 (.bin .eql (t 33) (k (.int .u8 34))),Im 35 34,Jm 36 35 false 6,I3 37 35 (.bin .lss (t 36) (k (.int .u8 32))),I1 38 (.pick (t 35) KT (t 37)),Im 39 38,Jm 40 39 false 6,I3 41 39 (.bin .gtr (t 40) (k (.int .u8 126))),I1 42 (.pick (t 39) KT (t 41))])
 (.cond (t 42)
 (Rg ([I1 2 (.mv (Ks ([]))),I1 3 (.mv KF)])
 .ret)
 .skip))
 (.seq (Rg ([Im 43 6,I1 44 (.bin .eql (t 43) (k (.int .u8 92)))])
 (.cond (t 44)
 (Rg ([Im 45 5,I1 46 (.bin .add (t 45) (Ki 1)),Im 5 46])
 (.seq (Rg ([Im 47 5,Im 48 0,I1 49 (.lens (t 48)),I1 50 (.bin .sub (t 49) (Ki 1)),I1 51 (.bin .eql (t 47) (t 50)),Im 52 51,Jm 53 52 false 0,Jm 54 52 false 5,I3 55 52 (.idxs (t 53) (t 54)),I3 56 52 (.bin .neq (t 55) (k (.int .u8 34))),Jm 57 52 false 56,Jm 58 57 true 0,Jm 59 57 true 5,I2 60 57 (.idxs (t 58) (t 59)),I2 61 57 (.bin .neq (t 60) (k (.int .u8 92))),I3 62 52 (.pick (t 57) (t 61) KF),I1 63 (.pick (t 52) KT (t 62))])
 (.cond (t 63)
 (Rg ([I1 2 (.mv (Ks ([]))),I1 3 (.mv KF)])
 .ret)
 .skip))
 (.reg [Im 64 0,Im 65 5,I1 66 (.idxs (t 64) (t 65)),Im 6 66])))
 .skip))
 (.reg [Im 67 4,Im 68 6,I1 69 (.bsl 1 [(t 68)]),I1 70 (.b2s (t 69)),I1 71 (.bin .add (t 67) (t 70)),Im 4 71])))))
 (.reg [Im 28 5,I1 29 (.bin .add (t 28) (Ki 1)),Im 5 29]))))))
 (Rg ([Im 72 4,Im 73 4,I1 74 (.lens (t 73)),I1 75 (.bin .leq (t 74) (Ki 64)),Im 2 72,Im 3 75])
 .ret)))))
theorem Wk : Fn Tryz.prog 165 76 [.inl 2,.inl 3] Kr:=aJ Tryz.func165 Tryz.ntmps165 Hq0
def sM : C :=
 (Rg ([I1 1 (.box (t 0)),I1 2 (.mv KF)])
 (.seq (Rg ([If 3 0 1,Il 4 3])
 (.block 0
 (Rg ([I1 6 (.bin .eql (t 4) (Ki 1)),Im 5 6])
 (.cond (t 5)
 (.seq (.draw 0 [(If 7 2 1,[]),(Il 8 7,[]),(I1 9 (.bin .eql (t 8) (Ki 0)),[]),(Im 10 9,[]),(Jf 11 10 true 1 1,[]),(Jl 12 10 true 11,[]),(I2 13 10 (.lens (t 12)),[]),(I2 14 10 (.bin .geq (t 13) (Ki 1)),[]),(I1 15 (.pick (t 10) (t 14) KF),[]),(Im 16 15,[]),(Jf 17 16 true 1 1,[]),(Jl 18 16 true 17,[]),(I2 19 16 (.lens (t 18)),[]),(I2 20 16 (.bin .leq (t 19) (Ki 64)),[]),(I1 21 (.pick (t 16) (t 20) KF),[]),(Im 22 21,[]),(Jf 23 22 true 1 1,[]),(Jl 24 22 true 23,[]),(I2 25 22 (.idxs (t 24) (Ki 0)),[]),(I2 26 22 (.bin .geq (t 25) (k (.int .u8 97))),[]),(I1 27 (.pick (t 22) (t 26) KF),[]),(Im 28 27,[]),(Jf 29 28 true 1 1,[]),(Jl 30 28 true 29,[]),(I2 31 28 (.idxs (t 30) (Ki 0)),[]),(I2 32 28 (.bin .leq (t 31) (k (.int .u8 122))),[]),(I1 33 (.pick (t 28) (t 32) KF),[]),(Im 34 33,[]),(Jf 35 34 true 1 1,[]),(Jl 36 34 true 35,[]),(I2 37 34 (.pcall (Kf 144) [(t 36),(Ki 0),(Kf 199)]),[]),(Jf 38 34 true 1 1,[]),(Jl 39 34 true 38,[]),(I2 40 34 (.lens (t 39)),[]),(I2 41 34 (.bin .eql (t 37) (t 40)),[]),(I1 42 (.pick (t 34) (t 41) KF),[]),(Im 2 42,[])])
 .ret)
 (Rg ([I1 44 (.bin .eql (t 4) (Ki 2)),Im 43 44])
 (.cond (t 43)
 (Rg ([If 45 1 1,Il 46 45,I1 47 (.bin .eql (t 46) (Ks ([]))),Im 48 47,Jf 49 48 true 2 1,Jl 50 48 true 49,I2 51 48 (.bin .geq (t 50) (Ki 0)),I1 52 (.pick (t 48) (t 51) KF),Im 2 52])
 .ret)
 (Rg ([I1 54 (.bin .eql (t 4) (Ki 4)),Im 53 54])
 (.cond (t 53)
 (Rg ([If 55 1 1,Il 56 55,I1 57 (.bin .eql (t 56) (Ks ([]))),Im 58 57,Jf 59 58 true 2 1,Jl 60 58 true 59,I2 61 58 (.bin .geq (t 60) (Ki 0)),I1 62 (.pick (t 58) (t 61) KF),Im 63 62,Jf 64 63 true 2 1,Jl 65 63 true 64,I2 66 63 (.bin .leq (t 65) (Ki 1099511627776)),I1 67 (.pick (t 63) (t 66) KF),Im 2 67])
 .ret)
 (Rg ([I1 69 (.bin .eql (t 4) (Ki 3)),Im 68 69])
 (.cond (t 68)
 (.seq (.draw 0 [(If 70 2 1,[]),(Il 71 70,[]),(I1 72 (.bin .eql (t 71) (Ki 0)),[]),(Im 73 72,[]),(Jf 74 73 true 1 1,[]),(Jl 75 73 true 74,[]),(I2 76 73 (.lens (t 75)),[]),(I2 77 73 (.bin .leq (t 76) (Ki 64)),[]),(I1 78 (.pick (t 73) (t 77) KF),[]),(Im 79 78,[]),(Jf 80 79 true 1 1,[]),(Jl 81 79 true 80,[]),(I2 82 79 (.pcall (Kf 144) [(t 81),(Ki 0),(Kf 200)]),[]),(Jf 83 79 true 1 1,[]),(Jl 84 79 true 83,[]),(I2 85 79 (.lens (t 84)),[]),(I2 86 79 (.bin .eql (t 82) (t 85)),[]),(I1 87 (.pick (t 79) (t 86) KF),[]),(Im 2 87,[])])
 .ret)
 (Rg ([I1 89 (.bin .eql (t 4) (Ki 5)),Im 88 89])
 (.cond (t 88)
 (.seq (.draw 0 [(If 90 2 1,[]),(Il 91 90,[]),(I1 92 (.bin .eql (t 91) (Ki 0)),[]),(Im 93 92,[]),(I2 94 93 (.pcall (Kf 151) []),[]),(Jf 95 93 true 1 1,[]),(Jl 96 93 true 95,[]),(I2 97 93 (.pcall (Kf 47) [(t 94),(t 96)]),[]),(I1 98 (.pick (t 93) (t 97) KF),[]),(Im 2 98,[])])
 .ret)
 .skip))))))))))))
 (Rg ([I1 2 (.mv KF)])
 .ret)))
theorem TQ : Fn Tryz.prog 166 99 [.inl 2] sM:=aJ Tryz.func166 Tryz.ntmps166 Hq0
def VT : C :=
 (Rg ([I1 1 (.box (t 0)),I1 2 (.mv KF)])
 (.seq (Rg ([If 3 3 1,Il 4 3,Iz 5 4,I1 6 (.bin .gtr (t 5) (Ki 0)),Im 7 6,Jf 8 7 false 0 1,Jl 9 7 false 8,I3 10 7 (.bin .lss (t 9) (Ki 0)),I1 11 (.pick (t 7) KT (t 10)),Im 12 11,Jf 13 12 false 0 1,Jl 14 12 false 13,I3 15 12 (.bin .gtr (t 14) (Ki 4)),I1 16 (.pick (t 12) KT (t 15))])
 (.cond (t 16)
 (Rg ([I1 2 (.mv KF)])
 .ret)
 .skip))
 (.seq (Rg ([If 17 0 1,Il 18 17,I1 19 (.bin .eql (t 18) (Ki 3))])
 (.cond (t 19)
 (Rg ([If 20 1 1,Il 21 20,I1 22 (.bin .eql (t 21) (Ki 0)),Im 23 22,Jf 24 23 true 2 1,Jl 25 23 true 24,I2 26 23 (.lens (t 25)),I2 27 23 (.bin .leq (t 26) (Ki 64)),I1 28 (.pick (t 23) (t 27) KF),Im 2 28])
 .ret)
 .skip))
 (.seq (Rg ([If 29 2 1,Il 30 29,I1 31 (.bin .neq (t 30) (Ks ([]))),Im 32 31,Jf 33 32 false 0 1,Jl 34 32 false 33,I3 35 32 (.bin .eql (t 34) (Ki 0)),Jm 36 32 false 35,Jf 37 36 true 1 1,Jl 38 36 true 37,I2 39 36 (.bin .neq (t 38) (Ki 0)),I3 40 32 (.pick (t 36) (t 39) KF),I1 41 (.pick (t 32) KT (t 40)),Im 42 41,Jf 43 42 false 0 1,Jl 44 42 false 43,I3 45 42 (.bin .eql (t 44) (Ki 1)),Jm 46 42 false 45,Jf 47 46 true 1 1,Jl 48 46 true 47,I2 49 46 (.bin .neq (t 48) (Ki 0)),I3 50 42 (.pick (t 46) (t 49) KF),Jm 51 42 false 50,Jf 52 51 true 1 1,Jl 53 51 true 52,I2 54 51 (.bin .neq (t 53) (Ki 1)),I3 55 42 (.pick (t 51) (t 54) KF),I1 56 (.pick (t 42) KT (t 55))])
 (.cond (t 56)
 (Rg ([I1 2 (.mv KF)])
 .ret)
 .skip))
 (Rg ([If 57 0 1,Il 58 57,I1 59 (.bin .neq (t 58) (Ki 4)),Im 60 59,Jf 61 60 false 1 1,Jl 62 60 false 61,I3 63 60 (.bin .geq (t 62) (Ki 0)),Jm 64 60 false 63,Jf 65 64 true 1 1,Jl 66 64 true 65,I2 67 64 (.bin .leq (t 66) (Ki 1099511627776)),I3 68 60 (.pick (t 64) (t 67) KF),I1 69 (.pick (t 60) KT (t 68)),Im 2 69])
 .ret)))))
theorem TN : Fn Tryz.prog 171 70 [.inl 2] VT:=aJ Tryz.func171 Tryz.ntmps171 Hq0
def QY : C :=
 (Rg ([I1 1 (.box (t 0)),I1 2 (.mv (Ki 0))])
 (.seq (Rg ([If 3 2 1,Il 4 3,I1 5 (.bin .eql (t 4) (Ki 0)),Im 6 5,Jf 7 6 true 3 1,Jl 8 6 true 7,I2 9 6 (.un .not (t 8)),I1 10 (.pick (t 6) (t 9) KF)])
 (.cond (t 10)
 (Rg ([I1 2 (.mv (Ki 8))])
 .ret)
 .skip))
 (Rg ([I1 2 (.mv (Ki 0))])
 .ret)))
theorem VA : Fn Tryz.prog 212 11 [.inl 2] QY:=aJ Tryz.func212 Tryz.ntmps212 Hq0
def XA : C :=
 (Rg ([I1 2 (.alloc [(.int .i64 0),(.int .i64 0),(.str []),.nils])])
 (Rg ([Im 3 0,I1 4 (.build [(.int .i64 0),(.int .i64 0),(.str []),.nils] [(0,1,(Ki 2)),(1,1,(t 3))]),Is 4 2 4])
 .ret))
theorem Xo : Fn Tryz.prog 242 5 [.inr (2,true,4)] XA:=aJ Tryz.func242 Tryz.ntmps242 Hq0
def Ud : C :=
 (Rg ([Im 10 1,I1 11 (.bin .add (t 10) (Ki 1)),Im 8 11])
 (.block 0
 (.loop
 (.seq (Rg ([Im 12 8,Im 13 2,I1 14 (.bin .lss (t 12) (t 13))])
 (.cond (t 14)
 .skip
 (.exit 0)))
 (.seq (.block 1
 (Rg ([Im 17 8,Im 9 17])
 (.block 2
 (.loop
 (.seq (.seq (.draw 0 [(Im 18 9,[]),(Im 19 1,[]),(I1 20 (.bin .gtr (t 18) (t 19)),[]),(Im 21 20,[]),(Jm 22 21 true 3,[]),(Jm 23 21 true 0,[]),(Jm 24 21 true 9,[]),(I2 25 21 (.iaddr 4 (t 23) (t 24)),[]),(I2 26 21 (.load true 4 (t 25)),[]),(Jm 27 21 true 0,[]),(Jm 28 21 true 9,[]),(I2 29 21 (.bin .sub (t 28) (Ki 1)),[]),(I2 30 21 (.iaddr 4 (t 27) (t 29)),[]),(I2 31 21 (.load true 4 (t 30)),[]),(I2 32 21 (.pcall (t 22) [(t 26),(t 31)]),[]),(I2 33 21 (.bin .lss (t 32) (Ki 0)),[]),(I1 34 (.pick (t 21) (t 33) KF),[])])
 (.cond (t 34)
 .skip
 (.exit 2)))
 (.seq (.block 3
 (.draw 0 [(Im 37 0,[]),(Im 38 9,[]),(Im 39 0,[]),(Im 40 9,[]),(I1 41 (.bin .sub (t 40) (Ki 1)),[]),(Im 42 0,[]),(Im 43 9,[]),(I1 44 (.bin .sub (t 43) (Ki 1)),[]),(I1 45 (.iaddr 4 (t 42) (t 44)),[]),(Ia 46 4 45,[]),(Im 47 0,[]),(Im 48 9,[]),(I1 49 (.iaddr 4 (t 47) (t 48)),[]),(Ia 50 4 49,[]),(I1 51 (.iaddr 4 (t 37) (t 38)),[]),(Is 4 51 46,[]),(I1 52 (.iaddr 4 (t 39) (t 41)),[]),(Is 4 52 50,[])]))
 (.reg [Im 35 9,I1 36 (.bin .sub (t 35) (Ki 1)),Im 9 36])))))))
 (.reg [Im 15 8,I1 16 (.bin .add (t 15) (Ki 1)),Im 8 16]))))))
theorem W6 : Fn Tryz.prog 253 53 [] Ud:=aJ Tryz.func253 Tryz.ntmps253 Hq0
end GP
namespace GP
open Go Go.Proofs
open Rd O
set_option maxRecDepth 100000
def c48 : C :=
 (Rg ([I1 0 (.mv KN)])
 (Rg ([I1 1 (.bsl 1 [(Ks ([102,97,99,116])),(Ks ([116,114,117,116,104])),(Ks ([110,117,109,98,101,114])),(Ks ([116,101,120,116])),(Ks ([116,105,109,101])),(Ks ([98,97,103])),(Ks ([117,115,101])),(Ks ([112,111,108,105,99,121])),(Ks ([98,121])),(Ks ([102,111,114])),(Ks ([112,101,114,109,105,116])),(Ks ([100,101,110,121])),(Ks ([105,102])),(Ks ([100,117,116,121])),(Ks ([97,100,118,105,99,101])),(Ks ([116,114,117,101])),(Ks ([102,97,108,115,101])),(Ks ([110,111,119])),(Ks ([111,114])),(Ks ([97,110,100])),(Ks ([110,111,116])),(Ks ([105,110])),(Ks ([104,97,115])),(Ks ([114,111,108,101])),(Ks ([115,105,122,101])),(Ks ([115,117,98,106,101,99,116])),(Ks ([114,101,115,111,117,114,99,101])),(Ks ([97,99,116,105,111,110])),(Ks ([101,110,118]))]),Im 0 1])
 .ret))
theorem A1e : Fn Tryz.prog 48 2 [.inl 0] c48:=aJ Tryz.func48 Tryz.ntmps48 Hq0
def c51 : C :=
 (Rg ([I1 2 (.box (t 0)),I1 3 (.box (t 1)),I1 4 (.mv KF)])
 (Rg ([If 5 1 2,Ia 6 4 5,If 7 1 3,Ia 8 4 7,Ip 9 54 [(t 6),(t 8)],Im 4 9])
 .ret))
theorem ZP : Fn Tryz.prog 51 10 [.inl 4] c51:=aJ Tryz.func51 Tryz.ntmps51 Hq0
def c62 : C :=
 (Rg ([I1 4 (.mv KF)])
 (.seq (Rg ([I1 5 (.mv (Ki 0))])
 (.block 0
 (.loop
 (.seq (Rg ([Im 6 5,Im 7 0,Iz 8 7,I1 9 (.bin .lss (t 6) (t 8))])
 (.cond (t 9)
 .skip
 (.exit 0)))
 (.seq (.block 1
 (Rg ([Im 12 0,Im 13 5,I1 14 (.iaddr 1 (t 12) (t 13)),Il 15 14,Im 16 1,I1 17 (.bin .eql (t 15) (t 16))])
 (.cond (t 17)
 (Rg ([I1 4 (.mv KT)])
 .ret)
 .skip)))
 (.reg [Im 10 5,I1 11 (.bin .add (t 10) (Ki 1)),Im 5 11]))))))
 (Rg ([I1 4 (.mv KF)])
 .ret)))
theorem A1g : Fn Tryz.prog 62 18 [.inl 4] c62:=aJ Tryz.func62 Tryz.ntmps62 Hq0
def c64 : C :=
 (Rg ([I1 2 (.box (t 0)),I1 3 (.box (t 1)),I1 4 (.mv (Ki 0))])
 (.seq (.seq (.draw 0 [(If 6 0 2,[]),(Il 7 6,[]),(If 8 0 3,[]),(Il 9 8,[]),(Ip 10 113 [(t 7),(t 9)],[]),(If 11 1 2,[]),(Il 12 11,[]),(If 13 1 3,[]),(Il 14 13,[]),(Ip 15 114 [(t 12),(t 14)],[]),(If 16 2 2,[]),(Il 17 16,[]),(If 18 2 3,[]),(Il 19 18,[]),(Ip 20 115 [(t 17),(t 19)],[]),(I1 21 (.bslq 1 [(t 10),(t 15),(t 20)]),[]),(Ip 22 112 [(t 21)],[]),(Im 5 22,[])])
 (Rg ([Im 23 5,I1 24 (.bin .neq (t 23) (Ki 0))])
 (.cond (t 24)
 (Rg ([Im 25 5,Im 4 25])
 .ret)
 .skip)))
 (Rg ([If 26 3 2,Il 27 26,If 28 3 3,Il 29 28,Ip 30 116 [(t 27),(t 29),(Kf 64)],Im 4 30])
 .ret)))
theorem ZF : Fn Tryz.prog 64 31 [.inl 4] c64:=aJ Tryz.func64 Tryz.ntmps64 Hq0
def c69 : C :=
 (Rg ([I1 4 (.mv KF)])
 (.seq (Rg ([Im 5 0,Im 6 1,Ip 7 117 [(t 5),(t 6)],I1 8 (.un .not (t 7))])
 (.cond (t 8)
 (Rg ([I1 4 (.mv KF)])
 .ret)
 .skip))
 (Rg ([Im 9 0,In 10 9,If 11 1 10,Il 12 11,I1 13 (.bin .add (t 12) (Ki 1)),In 14 9,If 15 1 14,Is 1 15 13])
 (Rg ([I1 4 (.mv KT)])
 .ret))))
theorem A0a : Fn Tryz.prog 69 16 [.inl 4] c69:=aJ Tryz.func69 Tryz.ntmps69 Hq0
def c97 : C :=
 (Rg ([I1 3 (.box (t 1)),I1 4 (.mv (Ki 0)),I1 5 (.mv (Ki 0))])
 (Rg ([If 12 0 3,Il 13 12,Ip 14 158 [(t 13)],Im 6 14])
 (.seq (Rg ([Im 15 6,I1 16 (.bin .lss (t 15) (Ki 0)),Im 17 16,Jf 18 17 false 7 3,Jl 19 17 false 18,I3 20 17 (.len (t 19)),Jm 21 17 false 6,I3 22 17 (.bin .neq (t 20) (t 21)),I1 23 (.pick (t 17) KT (t 22))])
 (.cond (t 23)
 (Rg ([I1 4 (.mv (Ki 0)),I1 5 (.mv (Ki 2))])
 .ret)
 .skip))
 (.seq (Rg ([Im 24 6,I1 25 (.bin .eql (t 24) (Ki 0))])
 (.cond (t 25)
 (Rg ([Im 26 0,Ia 27 8 3,Ip 28 159 [(t 26),(t 27)],Ie 29 0 28,Ie 30 1 28,Im 4 29,Im 5 30])
 .ret)
 .skip))
 (Rg ([Im 32 0,If 33 7 3,Il 34 33,I1 35 (.iaddr 8 (t 34) (Ki 0)),Ia 36 8 35,Ip 37 97 [(t 32),(t 36)],Im 31 37,Ie 38 0 31,Ie 39 1 31,Im 7 38,Im 8 39])
 (.seq (Rg ([Im 40 8,I1 41 (.bin .neq (t 40) (Ki 0))])
 (.cond (t 41)
 (Rg ([Im 42 8,I1 4 (.mv (Ki 0)),Im 5 42])
 .ret)
 .skip))
 (Rg ([If 43 0 3,Il 44 43,Im 45 7,Ip 46 160 [(t 44),(t 45)],Im 9 46])
 (.seq (Rg ([Im 47 6,I1 48 (.bin .eql (t 47) (Ki 2))])
 (.cond (t 48)
 (Rg ([Im 50 0,If 51 7 3,Il 52 51,I1 53 (.iaddr 8 (t 52) (Ki 1)),Ia 54 8 53,Ip 55 97 [(t 50),(t 54)],Im 49 55,Ie 56 0 49,Ie 57 1 49,Im 10 56,Im 11 57])
 (.seq (Rg ([Im 58 11,I1 59 (.bin .neq (t 58) (Ki 0))])
 (.cond (t 59)
 (Rg ([Im 60 11,I1 4 (.mv (Ki 0)),Im 5 60])
 .ret)
 .skip))
 (.reg [If 61 0 3,Il 62 61,Im 63 7,Im 64 10,Ip 65 161 [(t 62),(t 63),(t 64)],Im 9 65])))
 .skip))
 (.seq (Rg ([Im 66 9,I1 67 (.bin .eql (t 66) (Ki 0))])
 (.cond (t 67)
 (Rg ([I1 4 (.mv (Ki 0)),I1 5 (.mv (Ki 6))])
 .ret)
 .skip))
 (Rg ([Im 68 9,Im 4 68,I1 5 (.mv (Ki 0))])
 .ret))))))))))
theorem A0q : Fn Tryz.prog 97 69 [.inl 4,.inl 5] c97:=aJ Tryz.func97 Tryz.ntmps97 Hq0
def Sr : C :=
 (Rg ([I1 6 (.alloc [(.str []),(.int .i64 0),(.int .i64 0),(.str []),.nils,(.str []),(.str []),.nils])])
 (Rg ([Im 11 1,I1 12 (.call (t 11) []),I1 7 (.alloc [(.str []),(.int .i64 0),(.int .i64 0),(.str []),.nils,(.str []),(.str []),.nils]),Is 8 7 12])
 (.seq (.block 0
 (.loop
 (.seq (Rg ([Im 13 0,In 14 13,If 15 2 14,Il 16 15,I1 17 (.bin .eql (t 16) (Ki 0))])
 (.cond (t 17)
 .skip
 (.exit 0)))
 (.block 1
 (Rg ([I1 8 (.mv (Ks ([])))])
 (.seq (Rg ([Im 18 2,Iz 19 18,I1 20 (.mv (Ki 0))])
 (.block 2
 (.loop
 (Rg ([I1 21 (.bin .lss (t 20) (t 19))])
 (.seq (.cond (t 21)
 .skip
 (.exit 2))
 (.seq (.block 3
 (Rg ([I1 22 (.iaddr 1 (t 18) (t 20)),Il 23 22,Im 10 23])
 (Rg ([Im 24 8,I1 25 (.bin .eql (t 24) (Ks ([]))),Im 26 25,Jm 27 26 true 0,Jm 28 26 true 10,I2 29 26 (.call (Kf 69) [(t 27),(t 28)]),I1 30 (.pick (t 26) (t 29) KF)])
 (.cond (t 30)
 (.reg [Im 31 10,Im 8 31])
 .skip))))
 (.reg [I1 32 (.bin .add (t 20) (Ki 1)),Im 20 32])))))))
 (.seq (Rg ([Im 33 8,I1 34 (.bin .eql (t 33) (Ks ([])))])
 (.cond (t 34)
 (.exit 0)
 .skip))
 (.draw 0 [(Im 35 8,[]),(Ia 36 8 7,[]),(Im 37 1,[]),(I1 38 (.call (t 37) []),[Ia 36 8 7]),(Ip 39 169 [(t 35),(t 36),(t 38)],[]),(Is 8 7 39,[])]))))))))
 (Rg ([Ia 40 8 7,Is 8 6 40])
 .ret))))
theorem Si : Fn Tryz.prog 103 41 [.inr (6,true,8)] Sr:=aJ Tryz.func103 Tryz.ntmps103 Hq1
def XR : C :=
 (Rg ([I1 0 (.mv KN)])
 (Rg ([I1 1 (.bsl 1 [(Ks ([111,114]))]),I1 2 (.bsl 1 [(Ks ([97,110,100]))]),I1 3 (.bsl 1 [(Ks ([61,61])),(Ks ([33,61])),(Ks ([60])),(Ks ([60,61])),(Ks ([62])),(Ks ([62,61])),(Ks ([105,110]))]),I1 4 (.bsl 1 [(Ks ([43])),(Ks ([45]))]),I1 5 (.bsl 1 [(Ks ([42]))]),I1 6 (.bsl 1 [(t 1),(t 2),(t 3),(t 4),(t 5)]),Im 0 6])
 .ret))
theorem Vy : Fn Tryz.prog 106 7 [.inl 0] XR:=aJ Tryz.func106 Tryz.ntmps106 Hq0
def U0 : C :=
 (Rg ([I1 2 (.mv KF)])
 (Rg ([Ip 5 173 [],Im 3 5])
 (.seq (Rg ([I1 4 (.mv (Ki 0))])
 (.block 0
 (.loop
 (.seq (Rg ([Im 6 4,Im 7 3,Iz 8 7,I1 9 (.bin .lss (t 6) (t 8))])
 (.cond (t 9)
 .skip
 (.exit 0)))
 (.seq (.block 1
 (Rg ([Im 12 3,Im 13 4,I1 14 (.iaddr 1 (t 12) (t 13)),Il 15 14,Im 16 0,I1 17 (.bin .eql (t 15) (t 16))])
 (.cond (t 17)
 (Rg ([I1 2 (.mv KT)])
 .ret)
 .skip)))
 (.reg [Im 10 4,I1 11 (.bin .add (t 10) (Ki 1)),Im 4 11]))))))
 (Rg ([I1 2 (.mv KF)])
 .ret))))
theorem UJ : Fn Tryz.prog 110 18 [.inl 2] U0:=aJ Tryz.func110 Tryz.ntmps110 Hq0
def X8 : C :=
 (Rg ([I1 4 (.mv (Ki 0))])
 (Rg ([Im 7 0,Ip 8 174 [(t 7)],Im 5 8])
 (Rg ([Im 9 1,Ip 10 174 [(t 9)],Im 6 10])
 (.seq (Rg ([Im 11 5])
 (.cond (t 11)
 (.seq (Rg ([Im 12 6])
 (.cond (t 12)
 (Rg ([I1 4 (.mv (Ki 0))])
 .ret)
 .skip))
 (Rg ([I1 4 (.mv (k (.int .i64 (-1))))])
 .ret))
 .skip))
 (.seq (Rg ([Im 13 6])
 (.cond (t 13)
 (Rg ([I1 4 (.mv (Ki 1))])
 .ret)
 .skip))
 (.seq (Rg ([Im 14 0,Im 15 1,I1 16 (.bin .lss (t 14) (t 15))])
 (.cond (t 16)
 (Rg ([I1 4 (.mv (k (.int .i64 (-1))))])
 .ret)
 .skip))
 (.seq (Rg ([Im 17 0,Im 18 1,I1 19 (.bin .gtr (t 17) (t 18))])
 (.cond (t 19)
 (Rg ([I1 4 (.mv (Ki 1))])
 .ret)
 .skip))
 (Rg ([I1 4 (.mv (Ki 0))])
 .ret))))))))
theorem Vf : Fn Tryz.prog 113 20 [.inl 4] X8:=aJ Tryz.func113 Tryz.ntmps113 Hq0
def Us : C :=
 (Rg ([I1 2 (.mv KF)])
 (Rg ([Im 3 0,I1 4 (.bin .neq (t 3) (k (.int .u8 10))),Im 2 4])
 .ret))
theorem VF : Fn Tryz.prog 145 5 [.inl 2] Us:=aJ Tryz.func145 Tryz.ntmps145 Hq0
def Vl : C :=
 (Rg ([I1 2 (.mv KF)])
 (Rg ([Im 3 0,Ip 4 147 [(t 3)],Im 5 4,Jm 6 5 false 0,I3 7 5 (.pcall (Kf 148) [(t 6)]),I1 8 (.pick (t 5) KT (t 7)),Im 2 8])
 .ret))
theorem Wy : Fn Tryz.prog 146 9 [.inl 2] Vl:=aJ Tryz.func146 Tryz.ntmps146 Hq0
def CF : C :=
 (Rg ([I1 6 (.mv (Ki 0)),I1 7 (.mv (Ki 0))])
 (Rg ([Im 11 0,Im 12 1,Ip 13 144 [(t 11),(t 12),(Kf 148)],Im 8 13])
 (.seq (Rg ([Im 14 8,I1 15 (.bin .lss (t 14) (Ki 1)),Im 16 15,Jm 17 16 false 8,I3 18 16 (.bin .gtr (t 17) (Ki 19)),I1 19 (.pick (t 16) KT (t 18)),Im 20 19,Jm 21 20 false 1,Jm 22 20 false 8,I3 23 20 (.bin .add (t 21) (t 22)),Jm 24 20 false 0,I3 25 20 (.lens (t 24)),I3 26 20 (.bin .lss (t 23) (t 25)),Jm 27 20 false 26,Jm 28 27 true 0,Jm 29 27 true 1,Jm 30 27 true 8,I2 31 27 (.bin .add (t 29) (t 30)),I2 32 27 (.idxs (t 28) (t 31)),I2 33 27 (.pcall (Kf 147) [(t 32)]),I3 34 20 (.pick (t 27) (t 33) KF),I1 35 (.pick (t 20) KT (t 34))])
 (.cond (t 35)
 (Rg ([I1 6 (.mv (Ki 0)),I1 7 (.mv (Ki 0))])
 .ret)
 .skip))
 (Rg ([Im 37 0,Im 38 1,Im 39 1,Im 40 8,I1 41 (.bin .add (t 39) (t 40)),I1 42 (.subs (t 37) (some (t 38)) (some (t 41))),Ip 43 185 [(t 42),(Ki 10),(Ki 64)],Im 36 43,Ie 44 0 36,Ie 45 1 36,Im 9 44,Im 10 45])
 (.seq (Rg ([Im 46 10,I1 47 (.eq1 .ifc true (t 46) (k .nili)),Im 48 47,Jm 49 48 false 9,Jm 50 48 false 2,I3 51 48 (.bin .gtr (t 49) (t 50)),I1 52 (.pick (t 48) KT (t 51))])
 (.cond (t 52)
 (Rg ([I1 6 (.mv (Ki 0)),I1 7 (.mv (Ki 0))])
 .ret)
 .skip))
 (Rg ([Im 53 9,Im 54 8,Im 6 53,Im 7 54])
 .ret))))))
theorem UK : Fn Tryz.prog 149 55 [.inl 6,.inl 7] CF:=aJ Tryz.func149 Tryz.ntmps149 Hq0
def Oo : C :=
 (Rg ([I1 1 (.box (t 0)),I1 2 (.mv (Ki 0))])
 (.seq (Rg ([If 5 0 1,Il 6 5,Ip 7 187 [(t 6),(Kf 188)],Im 8 7,Jf 9 8 false 2 1,Jl 10 8 false 9,I3 11 8 (.pcall (Kf 189) [(t 10),(Kf 190)]),I1 12 (.pick (t 8) KT (t 11))])
 (.cond (t 12)
 (Rg ([I1 2 (.mv (Ki 9))])
 .ret)
 .skip))
 (.seq (Rg ([If 13 2 1,Il 14 13,Iz 15 14,I1 16 (.mv (Ki 0))])
 (.block 0
 (.loop
 (Rg ([I1 17 (.bin .lss (t 16) (t 15))])
 (.seq (.cond (t 17)
 .skip
 (.exit 0))
 (.seq (.block 1
 (Rg ([I1 18 (.iaddr 13 (t 14) (t 16)),Ia 19 13 18,I1 4 (.alloc [(.str []),(.str []),(.str []),(.bool false),(.str []),(.int .i64 0),(.int .i64 0),(.str []),.nils,(.str []),(.str []),.nils,.nils]),Is 13 4 19])
 (Rg ([If 20 12 4,Il 21 20,Ip 22 191 [(t 21),(Kf 192)]])
 (.cond (t 22)
 (Rg ([I1 2 (.mv (Ki 9))])
 .ret)
 .skip))))
 (.reg [I1 23 (.bin .add (t 16) (Ki 1)),Im 16 23])))))))
 (Rg ([I1 2 (.mv (Ki 0))])
 .ret))))
theorem WM : Fn Tryz.prog 153 24 [.inl 2] Oo:=aJ Tryz.func153 Tryz.ntmps153 Hq0
def WZ : C :=
 (Rg ([I1 2 (.box (t 0)),I1 3 (.box (t 1)),I1 4 (.mv (Ki 0))])
 (.seq (Rg ([If 5 0 2,Il 6 5,If 7 0 3,Il 8 7,I1 9 (.bin .neq (t 6) (t 8))])
 (.cond (t 9)
 (Rg ([If 10 0 2,Il 11 10,If 12 0 3,Il 13 12,Ip 14 203 [(t 11),(t 13)],Im 4 14])
 .ret)
 .skip))
 (.seq (Rg ([If 15 0 2,Il 16 15,I1 17 (.bin .eql (t 16) (Ki 3))])
 (.cond (t 17)
 (Rg ([If 18 2 2,Il 19 18,If 20 2 3,Il 21 20,Ip 22 204 [(t 19),(t 21)],Im 4 22])
 .ret)
 .skip))
 (Rg ([If 23 1 2,Il 24 23,If 25 1 3,Il 26 25,Ip 27 203 [(t 24),(t 26)],Im 4 27])
 .ret))))
theorem UG : Fn Tryz.prog 172 28 [.inl 4] WZ:=aJ Tryz.func172 Tryz.ntmps172 Hq0
def VR : C :=
 (Rg ([I1 0 (.mv KN)])
 (Rg ([I1 4 (.build [(.str []),(.int .i64 0),(.int .i64 0),(.int .i64 0)] [(0,1,(Ks ([110,111,116]))),(1,1,(Ki 1)),(3,1,(Ki 1))]),I1 5 (.build [(.str []),(.int .i64 0),(.int .i64 0),(.int .i64 0)] [(0,1,(Ks ([110,101,103]))),(1,1,(Ki 2)),(3,1,(Ki 2))]),I1 6 (.build [(.str []),(.int .i64 0),(.int .i64 0),(.int .i64 0)] [(0,1,(Ks ([97,110,100]))),(1,1,(Ki 1)),(2,1,(Ki 1)),(3,1,(Ki 1))]),I1 7 (.build [(.str []),(.int .i64 0),(.int .i64 0),(.int .i64 0)] [(0,1,(Ks ([111,114]))),(1,1,(Ki 1)),(2,1,(Ki 1)),(3,1,(Ki 1))]),I1 8 (.build [(.str []),(.int .i64 0),(.int .i64 0),(.int .i64 0)] [(0,1,(Ks ([43]))),(1,1,(Ki 2)),(2,1,(Ki 2)),(3,1,(Ki 2))]),I1 9 (.build [(.str []),(.int .i64 0),(.int .i64 0),(.int .i64 0)] [(0,1,(Ks ([45]))),(1,1,(Ki 2)),(2,1,(Ki 2)),(3,1,(Ki 2))]),I1 10 (.build [(.str []),(.int .i64 0),(.int .i64 0),(.int .i64 0)] [(0,1,(Ks ([42]))),(1,1,(Ki 2)),(2,1,(Ki 2)),(3,1,(Ki 2))]),I1 11 (.build [(.str []),(.int .i64 0),(.int .i64 0),(.int .i64 0)] [(0,1,(Ks ([43]))),(1,1,(Ki 4)),(2,1,(Ki 2)),(3,1,(Ki 4))]),I1 12 (.build [(.str []),(.int .i64 0),(.int .i64 0),(.int .i64 0)] [(0,1,(Ks ([45]))),(1,1,(Ki 4)),(2,1,(Ki 2)),(3,1,(Ki 4))]),I1 13 (.build [(.str []),(.int .i64 0),(.int .i64 0),(.int .i64 0)] [(0,1,(Ks ([45]))),(1,1,(Ki 4)),(2,1,(Ki 4)),(3,1,(Ki 2))]),I1 14 (.bsl 4 [(t 4),(t 5),(t 6),(t 7),(t 8),(t 9),(t 10),(t 11),(t 12),(t 13)]),Im 1 14])
 (.seq (Rg ([I1 2 (.mv (Ki 1))])
 (.block 0
 (.loop
 (.seq (Rg ([Im 15 2,I1 16 (.bin .leq (t 15) (Ki 4))])
 (.cond (t 16)
 .skip
 (.exit 0)))
 (.seq (.block 1
 (.reg [Im 19 1,Im 20 2,I1 21 (.bin .add (Ki 10) (t 20)),I1 22 (.build [(.str []),(.int .i64 0),(.int .i64 0),(.int .i64 0)] [(0,1,(Ks ([115,105,122,101]))),(1,1,(t 21)),(3,1,(Ki 2))]),Im 23 2,Im 24 2,I1 25 (.bin .add (Ki 10) (t 24)),I1 26 (.build [(.str []),(.int .i64 0),(.int .i64 0),(.int .i64 0)] [(0,1,(Ks ([105,110]))),(1,1,(t 23)),(2,1,(t 25)),(3,1,(Ki 1))]),Im 27 2,Im 28 2,I1 29 (.build [(.str []),(.int .i64 0),(.int .i64 0),(.int .i64 0)] [(0,1,(Ks ([61,61]))),(1,1,(t 27)),(2,1,(t 28)),(3,1,(Ki 1))]),Im 30 2,Im 31 2,I1 32 (.build [(.str []),(.int .i64 0),(.int .i64 0),(.int .i64 0)] [(0,1,(Ks ([33,61]))),(1,1,(t 30)),(2,1,(t 31)),(3,1,(Ki 1))]),Im 33 2,I1 34 (.bin .add (Ki 10) (t 33)),Im 35 2,I1 36 (.bin .add (Ki 10) (t 35)),I1 37 (.build [(.str []),(.int .i64 0),(.int .i64 0),(.int .i64 0)] [(0,1,(Ks ([61,61]))),(1,1,(t 34)),(2,1,(t 36)),(3,1,(Ki 1))]),Im 38 2,I1 39 (.bin .add (Ki 10) (t 38)),Im 40 2,I1 41 (.bin .add (Ki 10) (t 40)),I1 42 (.build [(.str []),(.int .i64 0),(.int .i64 0),(.int .i64 0)] [(0,1,(Ks ([33,61]))),(1,1,(t 39)),(2,1,(t 41)),(3,1,(Ki 1))]),I1 43 (.bsl 4 [(t 22),(t 26),(t 29),(t 32),(t 37),(t 42)]),I1 44 (.app false 4 40 (t 19) (t 43)),Im 1 44]))
 (.reg [Im 17 2,I1 18 (.bin .add (t 17) (Ki 1)),Im 2 18]))))))
 (.seq (Rg ([I1 3 (.mv (Ki 2))])
 (.block 2
 (.loop
 (.seq (Rg ([Im 45 3,I1 46 (.bin .leq (t 45) (Ki 4))])
 (.cond (t 46)
 .skip
 (.exit 2)))
 (.seq (.block 3
 (.reg [Im 49 1,Im 50 3,Im 51 3,I1 52 (.build [(.str []),(.int .i64 0),(.int .i64 0),(.int .i64 0)] [(0,1,(Ks ([60]))),(1,1,(t 50)),(2,1,(t 51)),(3,1,(Ki 1))]),Im 53 3,Im 54 3,I1 55 (.build [(.str []),(.int .i64 0),(.int .i64 0),(.int .i64 0)] [(0,1,(Ks ([60,61]))),(1,1,(t 53)),(2,1,(t 54)),(3,1,(Ki 1))]),Im 56 3,Im 57 3,I1 58 (.build [(.str []),(.int .i64 0),(.int .i64 0),(.int .i64 0)] [(0,1,(Ks ([62]))),(1,1,(t 56)),(2,1,(t 57)),(3,1,(Ki 1))]),Im 59 3,Im 60 3,I1 61 (.build [(.str []),(.int .i64 0),(.int .i64 0),(.int .i64 0)] [(0,1,(Ks ([62,61]))),(1,1,(t 59)),(2,1,(t 60)),(3,1,(Ki 1))]),I1 62 (.bsl 4 [(t 52),(t 55),(t 58),(t 61)]),I1 63 (.app false 4 40 (t 49) (t 62)),Im 1 63]))
 (.reg [Im 47 3,I1 48 (.bin .add (t 47) (Ki 1)),Im 3 48]))))))
 (Rg ([Im 64 1,Im 0 64])
 .ret)))))
theorem UZ : Fn Tryz.prog 195 65 [.inl 0] VR:=aJ Tryz.func195 Tryz.ntmps195 Hq0
def R8 : C :=
 (Rg ([I1 1 (.box (t 0)),I1 2 (.mv (Ki 0))])
 (.seq (.block 0
 (Rg ([Ia 4 4 1,Ip 5 129 [(t 4)],I1 6 (.un .not (t 5)),Im 7 6,Jf 8 7 false 0 1,Jl 9 7 false 8,I3 10 7 (.bin .eql (t 9) (Ki 0)),I1 11 (.pick (t 7) KT (t 10)),Im 12 11,Jf 13 12 false 0 1,Jl 14 12 false 13,I3 15 12 (.bin .eql (t 14) (Ki 5)),Jm 16 12 false 15,Jf 17 16 true 3 1,Jl 18 16 true 17,I2 19 16 (.len (t 18)),I2 20 16 (.bin .eql (t 19) (Ki 0)),I3 21 12 (.pick (t 16) (t 20) KF),I1 22 (.pick (t 12) KT (t 21)),Im 3 22])
 (.cond (t 3)
 (Rg ([I1 2 (.mv (Ki 0))])
 .ret)
 (Rg ([If 24 0 1,Il 25 24,I1 26 (.bin .eql (t 25) (Ki 5)),Im 23 26])
 (.cond (t 23)
 (Rg ([If 27 3 1,Il 28 27,I1 29 (.iaddr 4 (t 28) (Ki 0)),If 30 0 29,Il 31 30,I1 32 (.bin .add (Ki 10) (t 31)),Im 2 32])
 .ret)
 .skip)))))
 (Rg ([If 33 0 1,Il 34 33,Im 2 34])
 .ret)))
theorem TD : Fn Tryz.prog 196 35 [.inl 2] R8:=aJ Tryz.func196 Tryz.ntmps196 Hq0
def Ut : C :=
 (Rg ([I1 4 (.mv (Ki 0))])
 (.seq (Rg ([I1 5 (.mv (Ki 0))])
 (.block 0
 (.loop
 (.seq (Rg ([Im 6 5,Im 7 0,I1 8 (.lens (t 7)),I1 9 (.bin .lss (t 6) (t 8)),Im 10 9,Jm 11 10 true 5,Jm 12 10 true 1,I2 13 10 (.lens (t 12)),I2 14 10 (.bin .lss (t 11) (t 13)),I1 15 (.pick (t 10) (t 14) KF)])
 (.cond (t 15)
 .skip
 (.exit 0)))
 (.seq (.block 1
 (.seq (.seq (.draw 0 [(Im 18 0,[]),(Im 19 5,[]),(I1 20 (.idxs (t 18) (t 19)),[]),(Im 21 1,[]),(Im 22 5,[]),(I1 23 (.idxs (t 21) (t 22)),[]),(I1 24 (.bin .lss (t 20) (t 23)),[])])
 (.cond (t 24)
 (Rg ([I1 4 (.mv (k (.int .i64 (-1))))])
 .ret)
 .skip))
 (.seq (.draw 0 [(Im 25 0,[]),(Im 26 5,[]),(I1 27 (.idxs (t 25) (t 26)),[]),(Im 28 1,[]),(Im 29 5,[]),(I1 30 (.idxs (t 28) (t 29)),[]),(I1 31 (.bin .gtr (t 27) (t 30)),[])])
 (.cond (t 31)
 (Rg ([I1 4 (.mv (Ki 1))])
 .ret)
 .skip))))
 (.reg [Im 16 5,I1 17 (.bin .add (t 16) (Ki 1)),Im 5 17]))))))
 (.seq (Rg ([Im 32 0,I1 33 (.lens (t 32)),Im 34 1,I1 35 (.lens (t 34)),I1 36 (.bin .lss (t 33) (t 35))])
 (.cond (t 36)
 (Rg ([I1 4 (.mv (k (.int .i64 (-1))))])
 .ret)
 .skip))
 (.seq (Rg ([Im 37 0,I1 38 (.lens (t 37)),Im 39 1,I1 40 (.lens (t 39)),I1 41 (.bin .gtr (t 38) (t 40))])
 (.cond (t 41)
 (Rg ([I1 4 (.mv (Ki 1))])
 .ret)
 .skip))
 (Rg ([I1 4 (.mv (Ki 0))])
 .ret)))))
theorem W9 : Fn Tryz.prog 204 42 [.inl 4] Ut:=aJ Tryz.func204 Tryz.ntmps204 Hq0
def Uf : C :=
 (Rg ([I1 2 (.alloc [(.str []),(.int .i64 0),(.int .i64 0),(.str []),.nils,(.str []),(.str []),.nils])])
 (Rg ([Im 3 0,Im 4 0,I1 5 (.mkfn 228 [(t 4)] []),I1 6 (.bsl 1 [(Ks ([43])),(Ks ([45]))]),Ic 7 103 [(t 3),(t 5),(t 6)],Is 8 2 7])
 .ret))
theorem T6 : Fn Tryz.prog 217 8 [.inr (2,true,8)] Uf:=aJ Tryz.func217 Tryz.ntmps217 Hq0
def Gt : C :=
 (Rg ([I1 2 (.alloc [(.int .i64 0),(.int .i64 0),(.str []),.nils]),I1 3 (.mv KF)])
 (Rg ([Im 5 0,Ip 6 177 [(t 5)],I1 4 (.alloc [(.int .i64 0),(.str []),(.int .i64 0)]),Is 3 4 6])
 (.seq (.block 0
 (Rg ([If 8 0 4,Il 9 8,I1 10 (.bin .eql (t 9) (Ki 2)),Im 7 10])
 (.cond (t 7)
 (Rg ([Im 11 0,In 12 11,If 13 1 12,Il 14 13,I1 15 (.bin .add (t 14) (Ki 1)),In 16 11,If 17 1 16,Is 1 17 15])
 (Rg ([If 18 2 4,Il 19 18,Ip 20 242 [(t 19)],Is 4 2 20,I1 3 (.mv KT)])
 .ret))
 (Rg ([If 22 0 4,Il 23 22,I1 24 (.bin .eql (t 23) (Ki 3)),Im 21 24])
 (.cond (t 21)
 (Rg ([Im 25 0,In 26 25,If 27 1 26,Il 28 27,I1 29 (.bin .add (t 28) (Ki 1)),In 30 25,If 31 1 30,Is 1 31 29])
 (Rg ([If 32 1 4,Il 33 32,Ip 34 243 [(t 33)],Is 4 2 34,I1 3 (.mv KT)])
 .ret))
 (Rg ([If 36 0 4,Il 37 36,I1 38 (.bin .eql (t 37) (Ki 4)),Im 35 38])
 (.cond (t 35)
 (Rg ([Im 39 0,In 40 39,If 41 1 40,Il 42 41,I1 43 (.bin .add (t 42) (Ki 1)),In 44 39,If 45 1 44,Is 1 45 43])
 (Rg ([If 46 2 4,Il 47 46,I1 48 (.build [(.int .i64 0),(.int .i64 0),(.str []),.nils] [(0,1,(Ki 4)),(1,1,(t 47))]),Is 4 2 48,I1 3 (.mv KT)])
 .ret))
 (Rg ([Im 50 0,Ip 51 117 [(t 50),(Ks ([116,114,117,101]))],Im 52 51,Jm 53 52 false 0,I3 54 52 (.pcall (Kf 117) [(t 53),(Ks ([102,97,108,115,101]))]),I1 55 (.pick (t 52) KT (t 54)),Im 49 55])
 (.cond (t 49)
 (Rg ([Im 56 0,In 57 56,If 58 1 57,Il 59 58,I1 60 (.bin .add (t 59) (Ki 1)),In 61 56,If 62 1 61,Is 1 62 60])
 (Rg ([If 63 1 4,Il 64 63,I1 65 (.bin .eql (t 64) (Ks ([116,114,117,101]))),Ip 66 244 [(t 65)],Is 4 2 66,I1 3 (.mv KT)])
 .ret))
 .skip)))))))))
 (Rg ([I1 67 (.build [(.int .i64 0),(.int .i64 0),(.str []),.nils] []),Is 4 2 67,I1 3 (.mv KF)])
 .ret))))
theorem SZ : Fn Tryz.prog 239 68 [.inr (2,true,4),.inl 3] Gt:=aJ Tryz.func239 Tryz.ntmps239 Hq0
def Xc : C :=
 (Rg ([I1 10 (.mv KT)])
 (Rg ([I1 11 (.mv KT)])
 (.block 0
 (.loop
 (.block 1
 (Rg ([Im 21 2,Im 22 1,I1 23 (.bin .sub (t 21) (t 22)),Im 12 23])
 (.seq (Rg ([Im 24 12,I1 25 (.bin .leq (t 24) (Ki 12))])
 (.cond (t 25)
 (Rg ([Im 26 0,Im 27 1,Im 28 2,Im 29 4,Ip 30 253 [(t 26),(t 27),(t 28),(t 29)]])
 .ret)
 .skip))
 (.seq (Rg ([Im 31 3,I1 32 (.bin .eql (t 31) (Ki 0))])
 (.cond (t 32)
 (Rg ([Im 33 0,Im 34 1,Im 35 2,Im 36 4,Ip 37 254 [(t 33),(t 34),(t 35),(t 36)]])
 .ret)
 .skip))
 (.seq (Rg ([Im 38 10,I1 39 (.un .not (t 38))])
 (.cond (t 39)
 (Rg ([Im 40 0,Im 41 1,Im 42 2,Im 43 4,Ip 44 255 [(t 40),(t 41),(t 42),(t 43)]])
 (.reg [Im 45 3,I1 46 (.bin .sub (t 45) (Ki 1)),Im 3 46]))
 .skip))
 (Rg ([Im 48 0,Im 49 1,Im 50 2,Im 51 4,Ip 52 256 [(t 48),(t 49),(t 50),(t 51)],Im 47 52,Ie 53 0 47,Ie 54 1 47,Im 13 53,Im 14 54])
 (.seq (Rg ([Im 55 14,I1 56 (.bin .eql (t 55) (Ki 2))])
 (.cond (t 56)
 (Rg ([Im 57 0,Im 58 1,Im 59 2,Im 60 4,Ip 61 257 [(t 57),(t 58),(t 59),(t 60)]])
 (Rg ([Im 62 2,I1 63 (.bin .sub (t 62) (Ki 1)),Im 64 13,Im 65 1,I1 66 (.bin .sub (t 64) (t 65)),I1 67 (.bin .sub (t 63) (t 66)),Im 13 67])
 (.reg [I1 14 (.mv (Ki 1))])))
 .skip))
 (.seq (Rg ([Im 68 10,Im 69 68,Jm 70 69 true 11,I1 71 (.pick (t 69) (t 70) KF),Im 72 71,Jm 73 72 true 14,I2 74 72 (.bin .eql (t 73) (Ki 1)),I1 75 (.pick (t 72) (t 74) KF)])
 (.cond (t 75)
 (Rg ([Im 76 0,Im 77 1,Im 78 2,Im 79 4,Ip 80 258 [(t 76),(t 77),(t 78),(t 79)]])
 (.cond (t 80)
 .ret
 .skip))
 .skip))
 (.seq (.seq (.draw 0 [(Im 81 1,[]),(I1 82 (.bin .gtr (t 81) (Ki 0)),[]),(Im 83 82,[]),(Jm 84 83 true 4,[]),(Jm 85 83 true 0,[]),(Jm 86 83 true 1,[]),(I2 87 83 (.bin .sub (t 86) (Ki 1)),[]),(I2 88 83 (.iaddr 4 (t 85) (t 87)),[]),(I2 89 83 (.load true 4 (t 88)),[]),(Jm 90 83 true 0,[]),(Jm 91 83 true 13,[]),(I2 92 83 (.iaddr 4 (t 90) (t 91)),[]),(I2 93 83 (.load true 4 (t 92)),[]),(I2 94 83 (.pcall (t 84) [(t 89),(t 93)]),[]),(I2 95 83 (.bin .lss (t 94) (Ki 0)),[]),(I2 96 83 (.un .not (t 95)),[]),(I1 97 (.pick (t 83) (t 96) KF),[])])
 (.cond (t 97)
 (Rg ([Im 98 0,Im 99 1,Im 100 2,Im 101 13,Im 102 4,Ip 103 259 [(t 98),(t 99),(t 100),(t 101),(t 102)],Im 15 103])
 (Rg ([Im 104 15,Im 1 104])
 (.exit 1)))
 .skip))
 (Rg ([Im 106 0,Im 107 1,Im 108 2,Im 109 13,Im 110 4,Ip 111 260 [(t 106),(t 107),(t 108),(t 109),(t 110)],Im 105 111,Ie 112 0 105,Ie 113 1 105,Im 16 112,Im 17 113])
 (Rg ([Im 114 17,Im 11 114])
 (Rg ([Im 115 16,Im 116 1,I1 117 (.bin .sub (t 115) (t 116)),Im 118 2,Im 119 16,I1 120 (.bin .sub (t 118) (t 119)),Im 18 117,Im 19 120])
 (Rg ([Im 121 12,I1 122 (.bin .quo (t 121) (Ki 8)),Im 20 122])
 (Rg ([Im 123 18,Im 124 19,I1 125 (.bin .lss (t 123) (t 124))])
 (.cond (t 125)
 (Rg ([Im 126 18,Im 127 20,I1 128 (.bin .geq (t 126) (t 127)),Im 10 128])
 (Rg ([Im 129 0,Im 130 1,Im 131 16,Im 132 3,Im 133 4,Ip 134 251 [(t 129),(t 130),(t 131),(t 132),(t 133)]])
 (.reg [Im 135 16,I1 136 (.bin .add (t 135) (Ki 1)),Im 1 136])))
 (Rg ([Im 137 19,Im 138 20,I1 139 (.bin .geq (t 137) (t 138)),Im 10 139])
 (Rg ([Im 140 0,Im 141 16,I1 142 (.bin .add (t 141) (Ki 1)),Im 143 2,Im 144 3,Im 145 4,Ip 146 251 [(t 140),(t 142),(t 143),(t 144),(t 145)]])
 (.reg [Im 147 16,Im 2 147]))))))))))))))))))))))
theorem Tv : Fn Tryz.prog 251 148 [] Xc:=aJ Tryz.func251 Tryz.ntmps251 Hq0
end GP
namespace GP
open Go Go.Proofs
open Rd O
set_option maxRecDepth 100000
def c21 : C :=
 (Rg ([I1 1 (.box (t 0)),I1 2 (.mv KF)])
 (Rg ([If 6 0 1,Il 7 6,Ip 8 52 [(t 7)],Im 3 8])
 (Rg ([I1 4 (.mv (Ki 0))])
 (.seq (Rg ([Im 9 3,I1 10 (.bin .eql (t 9) (Ki 2)),Im 11 10,Jm 12 11 false 3,I3 13 11 (.bin .eql (t 12) (Ki 6)),I1 14 (.pick (t 11) KT (t 13)),Im 15 14,Jf 16 15 false 0 1,Jl 17 15 false 16,I3 18 15 (.bin .eql (t 17) (Ks ([115,105,122,101]))),I1 19 (.pick (t 15) KT (t 18))])
 (.cond (t 19)
 (.reg [I1 4 (.mv (Ki 1))])
 .skip))
 (.seq (Rg ([Im 20 3,I1 21 (.bin .eql (t 20) (Ki 0)),Im 22 21,Jm 23 22 false 3,I3 24 22 (.bin .eql (t 23) (Ki 1)),I1 25 (.pick (t 22) KT (t 24)),Im 26 25,Jm 27 26 false 3,I3 28 26 (.bin .geq (t 27) (Ki 3)),Jm 29 26 false 28,Jm 30 29 true 3,I2 31 29 (.bin .leq (t 30) (Ki 5)),I3 32 26 (.pick (t 29) (t 31) KF),I1 33 (.pick (t 26) KT (t 32))])
 (.cond (t 33)
 (.reg [I1 4 (.mv (Ki 2))])
 .skip))
 (.seq (Rg ([Im 34 3,I1 35 (.bin .lss (t 34) (Ki 0)),Im 36 35,Jf 37 36 false 7 1,Jl 38 36 false 37,I3 39 36 (.len (t 38)),Jm 40 36 false 4,I3 41 36 (.bin .neq (t 39) (t 40)),I1 42 (.pick (t 36) KT (t 41))])
 (.cond (t 42)
 (Rg ([I1 2 (.mv KF)])
 .ret)
 .skip))
 (.seq (Rg ([I1 5 (.mv (Ki 0))])
 (.block 0
 (.loop
 (.seq (Rg ([Im 43 5,If 44 7 1,Il 45 44,Iz 46 45,I1 47 (.bin .lss (t 43) (t 46))])
 (.cond (t 47)
 .skip
 (.exit 0)))
 (.seq (.block 1
 (Rg ([If 50 7 1,Il 51 50,Im 52 5,I1 53 (.iaddr 8 (t 51) (t 52)),Ia 54 8 53,Ip 55 21 [(t 54)],I1 56 (.un .not (t 55))])
 (.cond (t 56)
 (Rg ([I1 2 (.mv KF)])
 .ret)
 .skip)))
 (.reg [Im 48 5,I1 49 (.bin .add (t 48) (Ki 1)),Im 5 49]))))))
 (.seq (Rg ([If 57 0 1,Il 58 57,I1 59 (.bin .eql (t 58) (Ks ([118,97,108,117,101])))])
 (.cond (t 59)
 (Rg ([If 60 1 1,Ia 61 4 60,Ip 62 53 [(t 61)],Im 63 62,Jf 64 63 true 5 1,Jl 65 63 true 64,I2 66 63 (.bin .eql (t 65) (Ks ([]))),I1 67 (.pick (t 63) (t 66) KF),Im 68 67,Jf 69 68 true 6 1,Jl 70 68 true 69,I2 71 68 (.bin .eql (t 70) (Ks ([]))),I1 72 (.pick (t 68) (t 71) KF),Im 2 72])
 .ret)
 .skip))
 (.seq (Rg ([If 73 1 1,Ia 74 4 73,I1 75 (.build [(.int .i64 0),(.int .i64 0),(.str []),.nils] []),Ip 76 54 [(t 74),(t 75)],I1 77 (.un .not (t 76))])
 (.cond (t 77)
 (Rg ([I1 2 (.mv KF)])
 .ret)
 .skip))
 (.seq (Rg ([If 78 0 1,Il 79 78,I1 80 (.bin .eql (t 79) (Ks ([97,116,116,114]))),Im 81 80,Jf 82 81 false 0 1,Jl 83 81 false 82,I3 84 81 (.bin .eql (t 83) (Ks ([104,97,115]))),I1 85 (.pick (t 81) KT (t 84))])
 (.cond (t 85)
 (Rg ([If 86 5 1,Il 87 86,Ip 88 55 [(t 87)],Im 89 88,Jf 90 89 true 6 1,Jl 91 89 true 90,I2 92 89 (.pcall (Kf 56) [(t 91)]),I1 93 (.pick (t 89) (t 92) KF),Im 2 93])
 .ret)
 .skip))
 (.seq (Rg ([If 94 0 1,Il 95 94,I1 96 (.bin .eql (t 95) (Ks ([114,111,108,101])))])
 (.cond (t 96)
 (Rg ([If 97 5 1,Il 98 97,I1 99 (.bin .eql (t 98) (Ks ([]))),Im 100 99,Jf 101 100 true 6 1,Jl 102 100 true 101,I2 103 100 (.build [(.int .i64 0),(.str []),(.int .i64 0)] [(0,1,(Ki 3)),(1,1,(t 102))]),I2 104 100 (.pcall (Kf 57) [(t 103)]),I1 105 (.pick (t 100) (t 104) KF),Im 2 105])
 .ret)
 .skip))
 (Rg ([If 106 5 1,Il 107 106,I1 108 (.bin .eql (t 107) (Ks ([]))),Im 109 108,Jf 110 109 true 6 1,Jl 111 109 true 110,I2 112 109 (.bin .eql (t 111) (Ks ([]))),I1 113 (.pick (t 109) (t 112) KF),Im 2 113])
 .ret))))))))))))
theorem ZH : Fn Tryz.prog 21 114 [.inl 2] c21:=aJ Tryz.func21 Tryz.ntmps21 Hq0
def c56 : C :=
 (Rg ([I1 2 (.mv KF)])
 (Rg ([Im 3 0,I1 4 (.build [(.int .i64 0),(.str []),(.int .i64 0)] [(0,1,(Ki 1)),(1,1,(t 3))]),Ip 5 57 [(t 4)],Im 6 5,I2 7 6 (.pcall (Kf 16) []),Jm 8 6 true 0,I2 9 6 (.pcall (Kf 62) [(t 7),(t 8)]),I2 10 6 (.un .not (t 9)),I1 11 (.pick (t 6) (t 10) KF),Im 2 11])
 .ret))
theorem A1d : Fn Tryz.prog 56 12 [.inl 2] c56:=aJ Tryz.func56 Tryz.ntmps56 Hq0
def c94 : C :=
 (Rg ([I1 2 (.mv KF)])
 (Rg ([Ip 5 156 [],Im 3 5])
 (.seq (Rg ([I1 4 (.mv (Ki 0))])
 (.block 0
 (.loop
 (.seq (Rg ([Im 6 4,Im 7 3,Iz 8 7,I1 9 (.bin .lss (t 6) (t 8))])
 (.cond (t 9)
 .skip
 (.exit 0)))
 (.seq (.block 1
 (Rg ([Im 12 3,Im 13 4,I1 14 (.iaddr 1 (t 12) (t 13)),Il 15 14,Im 16 0,I1 17 (.bin .eql (t 15) (t 16))])
 (.cond (t 17)
 (Rg ([I1 2 (.mv KT)])
 .ret)
 .skip)))
 (.reg [Im 10 4,I1 11 (.bin .add (t 10) (Ki 1)),Im 4 11]))))))
 (Rg ([I1 2 (.mv KF)])
 .ret))))
theorem ZY : Fn Tryz.prog 94 18 [.inl 2] c94:=aJ Tryz.func94 Tryz.ntmps94 Hq0
def VM : C :=
 (Rg ([I1 6 (.mv (Ki 0))])
 (.seq (Rg ([Im 11 0,Iz 12 11,I1 13 (.mv (Ki 0))])
 (.block 0
 (.loop
 (Rg ([I1 14 (.bin .lss (t 13) (t 12))])
 (.seq (.cond (t 14)
 .skip
 (.exit 0))
 (.seq (.block 1
 (Rg ([Im 15 13,I1 16 (.iaddr 4 (t 11) (t 13)),Ia 17 4 16,I1 8 (.alloc [(.int .i64 0),(.int .i64 0),(.str []),.nils]),Im 7 15,Is 4 8 17])
 (.seq (Rg ([Im 18 7,Im 19 1,Iz 20 19,I1 21 (.bin .geq (t 18) (t 20))])
 (.cond (t 21)
 (Rg ([I1 6 (.mv (Ki 1))])
 .ret)
 .skip))
 (Rg ([Im 22 1,Im 23 7,I1 24 (.iaddr 4 (t 22) (t 23)),Ia 25 4 24,I1 9 (.alloc [(.int .i64 0),(.int .i64 0),(.str []),.nils]),Is 4 9 25])
 (Rg ([Im 26 2,Ia 27 4 8,Ia 28 4 9,I1 29 (.pcall (t 26) [(t 27),(t 28)]),Im 10 29])
 (Rg ([Im 30 10,I1 31 (.bin .neq (t 30) (Ki 0))])
 (.cond (t 31)
 (Rg ([Im 32 10,Im 6 32])
 .ret)
 .skip)))))))
 (.reg [I1 33 (.bin .add (t 13) (Ki 1)),Im 13 33])))))))
 (.seq (Rg ([Im 34 0,Iz 35 34,Im 36 1,Iz 37 36,I1 38 (.bin .lss (t 35) (t 37))])
 (.cond (t 38)
 (Rg ([I1 6 (.mv (k (.int .i64 (-1))))])
 .ret)
 .skip))
 (Rg ([I1 6 (.mv (Ki 0))])
 .ret))))
theorem T7 : Fn Tryz.prog 116 39 [.inl 6] VM:=aJ Tryz.func116 Tryz.ntmps116 Hq0
def Ub : C :=
 (Rg ([I1 1 (.box (t 0)),I1 2 (.mv KF)])
 (.seq (Rg ([If 5 0 1,Il 6 5,I1 7 (.bin .neq (t 6) (Ki 5))])
 (.cond (t 7)
 (Rg ([Ia 8 4 1,Ip 9 179 [(t 8)],Im 2 9])
 .ret)
 .skip))
 (.seq (Rg ([If 10 3 1,Il 11 10,Iz 12 11,I1 13 (.mv (Ki 0))])
 (.block 0
 (.loop
 (Rg ([I1 14 (.bin .lss (t 13) (t 12))])
 (.seq (.cond (t 14)
 .skip
 (.exit 0))
 (.seq (.block 1
 (Rg ([Im 15 13,I1 16 (.iaddr 4 (t 11) (t 13)),Ia 17 4 16,I1 4 (.alloc [(.int .i64 0),(.int .i64 0),(.str []),.nils]),Im 3 15,Is 4 4 17])
 (.seq (.draw 0 [(Ia 18 4 4,[]),(Ip 19 179 [(t 18)],[]),(I1 20 (.un .not (t 19)),[]),(Im 21 20,[]),(Jf 22 21 false 0 4,[]),(Jl 23 21 false 22,[]),(I3 24 21 (.bin .eql (t 23) (Ki 0)),[]),(I1 25 (.pick (t 21) KT (t 24)),[]),(Im 26 25,[]),(Jf 27 26 false 0 4,[]),(Jl 28 26 false 27,[]),(Jf 29 26 false 3 1,[]),(Jl 30 26 false 29,[]),(I3 31 26 (.iaddr 4 (t 30) (Ki 0)),[]),(Jf 32 26 false 0 31,[]),(Jl 33 26 false 32,[]),(I3 34 26 (.bin .neq (t 28) (t 33)),[]),(I1 35 (.pick (t 26) KT (t 34)),[]),(Im 36 35,[]),(Jm 37 36 false 3,[]),(I3 38 36 (.bin .gtr (t 37) (Ki 0)),[]),(Jm 39 36 false 38,[]),(Jf 40 39 true 3 1,[]),(Jl 41 39 true 40,[]),(Jm 42 39 true 3,[]),(I2 43 39 (.bin .sub (t 42) (Ki 1)),[]),(I2 44 39 (.iaddr 4 (t 41) (t 43)),[]),(I2 45 39 (.load true 4 (t 44)),[]),(I2 46 39 (.load true 4 (t 4)),[]),(I2 47 39 (.pcall (Kf 64) [(t 45),(t 46)]),[]),(I2 48 39 (.bin .geq (t 47) (Ki 0)),[]),(I3 49 36 (.pick (t 39) (t 48) KF),[]),(I1 50 (.pick (t 36) KT (t 49)),[])])
 (.cond (t 50)
 (Rg ([I1 2 (.mv KF)])
 .ret)
 .skip))))
 (.reg [I1 51 (.bin .add (t 13) (Ki 1)),Im 13 51])))))))
 (Rg ([If 52 1 1,Il 53 52,I1 54 (.bin .eql (t 53) (Ki 0)),Im 55 54,Jf 56 55 true 2 1,Jl 57 55 true 56,I2 58 55 (.bin .eql (t 57) (Ks ([]))),I1 59 (.pick (t 55) (t 58) KF),Im 60 59,Jf 61 60 true 3 1,Jl 62 60 true 61,I2 63 60 (.len (t 62)),I2 64 60 (.bin .leq (t 63) (Ki 16)),I1 65 (.pick (t 60) (t 64) KF),Im 2 65])
 .ret))))
theorem Xx : Fn Tryz.prog 129 66 [.inl 2] Ub:=aJ Tryz.func129 Tryz.ntmps129 Hq0
def PP : C :=
 (Rg ([I1 2 (.mv KF)])
 (Rg ([Im 3 0,I1 4 (.bin .geq (t 3) (k (.int .u8 97))),Im 5 4,Jm 6 5 true 0,I2 7 5 (.bin .leq (t 6) (k (.int .u8 122))),I1 8 (.pick (t 5) (t 7) KF),Im 9 8,Jm 10 9 false 0,I3 11 9 (.bin .eql (t 10) (k (.int .u8 95))),I1 12 (.pick (t 9) KT (t 11)),Im 2 12])
 .ret))
theorem UM : Fn Tryz.prog 147 13 [.inl 2] PP:=aJ Tryz.func147 Tryz.ntmps147 Hq0
def Xk : C :=
 (Rg ([I1 2 (.mv KF)])
 (Rg ([Im 3 0,I1 4 (.bin .geq (t 3) (k (.int .u8 48))),Im 5 4,Jm 6 5 true 0,I2 7 5 (.bin .leq (t 6) (k (.int .u8 57))),I1 8 (.pick (t 5) (t 7) KF),Im 2 8])
 .ret))
theorem Sg : Fn Tryz.prog 148 9 [.inl 2] Xk:=aJ Tryz.func148 Tryz.ntmps148 Hq0
def Xg : C :=
 (Rg ([I1 1 (.box (t 0)),I1 2 (.mv (Ki 0))])
 (Rg ([I1 3 (.mv (Ki 0))])
 (.seq (.draw 0 [(Ip 7 98 [],[]),(If 8 1 1,[]),(Il 9 8,[]),(Ip 10 47 [(t 7),(t 9)],[]),(Im 4 10,[])])
 (.seq (Rg ([If 11 2 1,Il 12 11,Iz 13 12,I1 14 (.mv (Ki 0))])
 (.block 0
 (.loop
 (Rg ([I1 15 (.bin .lss (t 14) (t 13))])
 (.seq (.cond (t 15)
 .skip
 (.exit 0))
 (.seq (.block 1
 (Rg ([I1 16 (.iaddr 13 (t 12) (t 14)),Ia 17 13 16,I1 6 (.alloc [(.str []),(.str []),(.str []),(.bool false),(.str []),(.int .i64 0),(.int .i64 0),(.str []),.nils,(.str []),(.str []),.nils,.nils]),Is 13 6 17])
 (.seq (.draw 0 [(Im 18 4,[]),(Im 19 18,[]),(I2 20 19 (.pcall (Kf 98) []),[]),(Jf 21 19 true 2 6,[]),(Jl 22 19 true 21,[]),(I2 23 19 (.pcall (Kf 47) [(t 20),(t 22)]),[]),(I1 24 (.pick (t 19) (t 23) KF),[]),(Im 4 24,[])])
 (.reg [Im 25 3,If 26 12 6,Il 27 26,Iz 28 27,I1 29 (.bin .add (t 25) (t 28)),Im 3 29]))))
 (.reg [I1 30 (.bin .add (t 14) (Ki 1)),Im 14 30])))))))
 (.seq (.block 2
 (Rg ([Im 32 4,I1 33 (.un .not (t 32)),Im 31 33])
 (.cond (t 31)
 (Rg ([I1 2 (.mv (Ki 8))])
 .ret)
 (Rg ([Im 35 3,I1 36 (.bin .gtr (t 35) (Ki 24)),Im 34 36])
 (.cond (t 34)
 (Rg ([I1 2 (.mv (Ki 13))])
 .ret)
 .skip)))))
 (Rg ([I1 2 (.mv (Ki 0))])
 .ret))))))
theorem XC : Fn Tryz.prog 154 37 [.inl 2] Xg:=aJ Tryz.func154 Tryz.ntmps154 Hq0
def TU : C :=
 (Rg ([I1 2 (.mv (Ki 0))])
 (.seq (Rg ([Im 3 0])
 (.block 0
 (.seq (Rg ([I1 5 (.bin .eql (t 3) (Ks ([118,97,108,117,101]))),Im 4 5])
 (.cond (t 4)
 .skip
 (Rg ([I1 6 (.bin .eql (t 3) (Ks ([110,111,119]))),Im 4 6])
 (.cond (t 4)
 .skip
 (Rg ([I1 7 (.bin .eql (t 3) (Ks ([97,116,116,114]))),Im 4 7])
 (.cond (t 4)
 .skip
 (Rg ([I1 8 (.bin .eql (t 3) (Ks ([104,97,115]))),Im 4 8])
 (.cond (t 4)
 .skip
 (.reg [I1 9 (.bin .eql (t 3) (Ks ([114,111,108,101]))),Im 4 9])))))))))
 (.cond (t 4)
 (Rg ([I1 2 (.mv (Ki 0))])
 .ret)
 (.seq (Rg ([I1 11 (.bin .eql (t 3) (Ks ([110,111,116]))),Im 10 11])
 (.cond (t 10)
 .skip
 (Rg ([I1 12 (.bin .eql (t 3) (Ks ([110,101,103]))),Im 10 12])
 (.cond (t 10)
 .skip
 (.reg [I1 13 (.bin .eql (t 3) (Ks ([115,105,122,101]))),Im 10 13])))))
 (.cond (t 10)
 (Rg ([I1 2 (.mv (Ki 1))])
 .ret)
 (.seq (Rg ([I1 15 (.bin .eql (t 3) (Ks ([97,110,100]))),Im 14 15])
 (.cond (t 14)
 .skip
 (Rg ([I1 16 (.bin .eql (t 3) (Ks ([111,114]))),Im 14 16])
 (.cond (t 14)
 .skip
 (Rg ([I1 17 (.bin .eql (t 3) (Ks ([43]))),Im 14 17])
 (.cond (t 14)
 .skip
 (Rg ([I1 18 (.bin .eql (t 3) (Ks ([45]))),Im 14 18])
 (.cond (t 14)
 .skip
 (Rg ([I1 19 (.bin .eql (t 3) (Ks ([42]))),Im 14 19])
 (.cond (t 14)
 .skip
 (Rg ([I1 20 (.bin .eql (t 3) (Ks ([61,61]))),Im 14 20])
 (.cond (t 14)
 .skip
 (Rg ([I1 21 (.bin .eql (t 3) (Ks ([33,61]))),Im 14 21])
 (.cond (t 14)
 .skip
 (Rg ([I1 22 (.bin .eql (t 3) (Ks ([60]))),Im 14 22])
 (.cond (t 14)
 .skip
 (Rg ([I1 23 (.bin .eql (t 3) (Ks ([60,61]))),Im 14 23])
 (.cond (t 14)
 .skip
 (Rg ([I1 24 (.bin .eql (t 3) (Ks ([62]))),Im 14 24])
 (.cond (t 14)
 .skip
 (Rg ([I1 25 (.bin .eql (t 3) (Ks ([62,61]))),Im 14 25])
 (.cond (t 14)
 .skip
 (.reg [I1 26 (.bin .eql (t 3) (Ks ([105,110]))),Im 14 26])))))))))))))))))))))))
 (.cond (t 14)
 (Rg ([I1 2 (.mv (Ki 2))])
 .ret)
 .skip))))))))
 (Rg ([I1 2 (.mv (k (.int .i64 (-1))))])
 .ret)))
theorem Ti : Fn Tryz.prog 158 27 [.inl 2] TU:=aJ Tryz.func158 Tryz.ntmps158 Hq0
def W1 : C :=
 (Rg ([I1 4 (.mv (Ki 0))])
 (.seq (.block 0
 (Rg ([Im 6 0,I1 7 (.bin .eql (t 6) (Ks ([110,111,116]))),Im 8 7,Jm 9 8 true 1,I2 10 8 (.bin .eql (t 9) (Ki 1)),I1 11 (.pick (t 8) (t 10) KF),Im 5 11])
 (.cond (t 5)
 (Rg ([I1 4 (.mv (Ki 1))])
 .ret)
 (.seq (Rg ([Im 13 0,I1 14 (.bin .eql (t 13) (Ks ([110,101,103]))),Im 15 14,Jm 16 15 true 1,I2 17 15 (.bin .eql (t 16) (Ki 2)),I1 18 (.pick (t 15) (t 17) KF),Im 12 18])
 (.cond (t 12)
 .skip
 (.reg [Im 19 0,I1 20 (.bin .eql (t 19) (Ks ([115,105,122,101]))),Im 21 20,Jm 22 21 true 1,I2 23 21 (.bin .gtr (t 22) (Ki 10)),I1 24 (.pick (t 21) (t 23) KF),Im 12 24])))
 (.cond (t 12)
 (Rg ([I1 4 (.mv (Ki 2))])
 .ret)
 .skip)))))
 (Rg ([I1 4 (.mv (Ki 0))])
 .ret)))
theorem VB : Fn Tryz.prog 160 25 [.inl 4] W1:=aJ Tryz.func160 Tryz.ntmps160 Hq0
def X3 : C :=
 (Rg ([I1 4 (.mv (Ki 0)),I1 5 (.mv KF)])
 (Rg ([I1 6 (.mv (k (.int .u64 0)))])
 (.seq (Rg ([I1 7 (.mv (Ki 0))])
 (.block 0
 (.loop
 (.seq (Rg ([Im 8 7,Im 9 0,I1 10 (.lens (t 9)),I1 11 (.bin .lss (t 8) (t 10))])
 (.cond (t 11)
 .skip
 (.exit 0)))
 (.seq (.block 1
 (.seq (Rg ([Im 14 0,Im 15 7,I1 16 (.idxs (t 14) (t 15)),Ip 17 163 [(t 16)],I1 18 (.un .not (t 17)),Im 19 18,Jm 20 19 false 7,I3 21 19 (.bin .geq (t 20) (Ki 19)),I1 22 (.pick (t 19) KT (t 21))])
 (.cond (t 22)
 (Rg ([I1 4 (.mv (Ki 0)),I1 5 (.mv KF)])
 .ret)
 .skip))
 (.reg [Im 23 6,I1 24 (.bin .mul (t 23) (k (.int .u64 10))),Im 25 0,Im 26 7,I1 27 (.idxs (t 25) (t 26)),I1 28 (.bin .sub (t 27) (k (.int .u8 48))),I1 29 (.conv .u64 (t 28)),I1 30 (.bin .add (t 24) (t 29)),Im 6 30])))
 (.reg [Im 12 7,I1 13 (.bin .add (t 12) (Ki 1)),Im 7 13]))))))
 (Rg ([Im 31 6,I1 32 (.conv .i64 (t 31)),Im 33 0,I1 34 (.lens (t 33)),I1 35 (.bin .gtr (t 34) (Ki 0)),Im 36 35,Jm 37 36 true 6,Jm 38 36 true 1,I2 39 36 (.conv .u64 (t 38)),I2 40 36 (.bin .leq (t 37) (t 39)),I1 41 (.pick (t 36) (t 40) KF),Im 4 32,Im 5 41])
 .ret))))
theorem Xe : Fn Tryz.prog 164 42 [.inl 4,.inl 5] X3:=aJ Tryz.func164 Tryz.ntmps164 Hq0
def XZ : C :=
 (Rg ([I1 2 (.mv KF)])
 (Rg ([Im 3 0,Im 4 0,I1 5 (.bin .neq (t 3) (t 4)),Im 2 5])
 .ret))
theorem Va : Fn Tryz.prog 174 6 [.inl 2] XZ:=aJ Tryz.func174 Tryz.ntmps174 Hq0
def DM : C :=
 (Rg ([I1 3 (.box (t 1)),I1 4 (.mv (Ki 0)),I1 5 (.mv (Ki 0))])
 (.seq (Rg ([If 8 0 3,Il 9 8,I1 10 (.bin .eql (t 9) (Ks ([110,111,119])))])
 (.cond (t 10)
 (Rg ([I1 4 (.mv (Ki 4)),I1 5 (.mv (Ki 0))])
 .ret)
 .skip))
 (.seq (Rg ([If 11 0 3,Il 12 11,I1 13 (.bin .eql (t 12) (Ks ([114,111,108,101])))])
 (.cond (t 13)
 (Rg ([I1 4 (.mv (Ki 1)),I1 5 (.mv (Ki 0))])
 .ret)
 .skip))
 (.seq (Rg ([If 14 0 3,Il 15 14,I1 16 (.bin .eql (t 15) (Ks ([118,97,108,117,101])))])
 (.cond (t 16)
 (.seq (Rg ([If 17 1 3,Ia 18 4 17,Ip 19 107 [(t 18)],I1 20 (.un .not (t 19)),Im 21 20,Jf 22 21 false 1 3,Jf 23 21 false 0 22,Jl 24 21 false 23,I3 25 21 (.bin .eql (t 24) (Ki 0)),I1 26 (.pick (t 21) KT (t 25)),Im 27 26,Jf 28 27 false 1 3,Jf 29 27 false 0 28,Jl 30 27 false 29,I3 31 27 (.bin .eql (t 30) (Ki 5)),Jm 32 27 false 31,Jf 33 32 true 1 3,Jf 34 32 true 3 33,Jl 35 32 true 34,I2 36 32 (.len (t 35)),I2 37 32 (.bin .eql (t 36) (Ki 0)),I3 38 27 (.pick (t 32) (t 37) KF),I1 39 (.pick (t 27) KT (t 38))])
 (.cond (t 39)
 (Rg ([I1 4 (.mv (Ki 0)),I1 5 (.mv (Ki 2))])
 .ret)
 .skip))
 (.seq (Rg ([If 40 1 3,If 41 0 40,Il 42 41,I1 43 (.bin .eql (t 42) (Ki 5))])
 (.cond (t 43)
 (Rg ([If 44 1 3,If 45 3 44,Il 46 45,I1 47 (.iaddr 4 (t 46) (Ki 0)),If 48 0 47,Il 49 48,I1 50 (.bin .add (Ki 10) (t 49)),Im 4 50,I1 5 (.mv (Ki 0))])
 .ret)
 .skip))
 (Rg ([If 51 1 3,If 52 0 51,Il 53 52,Im 4 53,I1 5 (.mv (Ki 0))])
 .ret)))
 .skip))
 (.seq (Rg ([I1 6 (.mv (Ki 0))])
 (.block 0
 (.loop
 (.seq (Rg ([Im 54 6,Im 55 0,Iz 56 55,I1 57 (.bin .lss (t 54) (t 56))])
 (.cond (t 57)
 .skip
 (.exit 0)))
 (.seq (.block 1
 (.seq (.seq (.draw 0 [(Im 60 0,[]),(Im 61 6,[]),(I1 62 (.iaddr 4 (t 60) (t 61)),[]),(If 63 0 62,[]),(Il 64 63,[]),(If 65 5 3,[]),(Il 66 65,[]),(I1 67 (.bin .neq (t 64) (t 66)),[]),(Im 68 67,[]),(Jm 69 68 false 0,[]),(Jm 70 68 false 6,[]),(I3 71 68 (.iaddr 4 (t 69) (t 70)),[]),(Jf 72 68 false 1 71,[]),(Jl 73 68 false 72,[]),(Jf 74 68 false 6 3,[]),(Jl 75 68 false 74,[]),(I3 76 68 (.bin .neq (t 73) (t 75)),[]),(I1 77 (.pick (t 68) KT (t 76)),[])])
 (.cond (t 77)
 (.exit 1)
 .skip))
 (.seq (Rg ([If 78 0 3,Il 79 78,I1 80 (.bin .eql (t 79) (Ks ([104,97,115])))])
 (.cond (t 80)
 (Rg ([Im 81 0,Im 82 6,I1 83 (.iaddr 4 (t 81) (t 82)),Ia 84 4 83,Ip 85 212 [(t 84)],I1 4 (.mv (Ki 1)),Im 5 85])
 .ret)
 .skip))
 (Rg ([Im 86 0,Im 87 6,I1 88 (.iaddr 4 (t 86) (t 87)),If 89 2 88,Il 90 89,Im 7 90])
 (.seq (Rg ([Im 91 0,Im 92 6,I1 93 (.iaddr 4 (t 91) (t 92)),If 94 3 93,Il 95 94])
 (.cond (t 95)
 (.reg [Im 96 7,I1 97 (.bin .add (t 96) (Ki 10)),Im 7 97])
 .skip))
 (.seq (Rg ([Im 98 7,I1 99 (.bin .eql (t 98) (Ki 0))])
 (.cond (t 99)
 (Rg ([I1 4 (.mv (Ki 0)),I1 5 (.mv (Ki 8))])
 .ret)
 .skip))
 (Rg ([Im 100 7,Im 4 100,I1 5 (.mv (Ki 0))])
 .ret)))))))
 (.reg [Im 58 6,I1 59 (.bin .add (t 58) (Ki 1)),Im 6 59]))))))
 (Rg ([I1 4 (.mv (Ki 0)),I1 5 (.mv (Ki 8))])
 .ret))))))
theorem Uq : Fn Tryz.prog 194 101 [.inl 4,.inl 5] DM:=aJ Tryz.func194 Tryz.ntmps194 Hq0
def WH : C :=
 (Rg ([I1 2 (.alloc [(.str []),(.int .i64 0),(.int .i64 0),(.str []),.nils,(.str []),(.str []),.nils])])
 (Rg ([Im 6 0,Ic 7 217 [(t 6)],I1 3 (.alloc [(.str []),(.int .i64 0),(.int .i64 0),(.str []),.nils,(.str []),(.str []),.nils]),Is 8 3 7])
 (.seq (Rg ([I1 8 (.bsl 1 [(Ks ([61,61])),(Ks ([33,61])),(Ks ([60])),(Ks ([60,61])),(Ks ([62])),(Ks ([62,61])),(Ks ([105,110]))]),Iz 9 8,I1 10 (.mv (Ki 0))])
 (.block 0
 (.loop
 (Rg ([I1 11 (.bin .lss (t 10) (t 9))])
 (.seq (.cond (t 11)
 .skip
 (.exit 0))
 (.seq (.block 1
 (Rg ([I1 12 (.iaddr 1 (t 8) (t 10)),Il 13 12,Im 5 13])
 (Rg ([Im 14 0,Im 15 5,Ic 16 69 [(t 14),(t 15)]])
 (.cond (t 16)
 (.seq (.draw 0 [(Im 17 5,[]),(Ia 18 8 3,[]),(Im 19 0,[]),(Ic 20 217 [(t 19)],[Ia 18 8 3]),(Ip 21 169 [(t 17),(t 18),(t 20)],[]),(Is 8 2 21,[])])
 .ret)
 .skip))))
 (.reg [I1 22 (.bin .add (t 10) (Ki 1)),Im 10 22])))))))
 (Rg ([Ia 23 8 3,Is 8 2 23])
 .ret))))
theorem Wo : Fn Tryz.prog 202 24 [.inr (2,true,8)] WH:=aJ Tryz.func202 Tryz.ntmps202 Hq0
def DO : C :=
 (Rg ([I1 2 (.alloc [(.str []),(.int .i64 0),(.int .i64 0),(.str []),.nils,(.str []),(.str []),.nils])])
 (Rg ([Im 11 0,In 12 11,If 13 1 12,Il 14 13,Im 3 14])
 (.seq (Rg ([Im 16 0,Ic 17 239 [(t 16)],Im 15 17,Ie 18 0 15,Ie 19 1 15,I1 4 (.alloc [(.int .i64 0),(.int .i64 0),(.str []),.nils]),Is 4 4 18,Im 5 19])
 (Rg ([Im 20 5])
 (.cond (t 20)
 (Rg ([Ia 21 4 4,I1 22 (.build [(.str []),(.int .i64 0),(.int .i64 0),(.str []),.nils,(.str []),(.str []),.nils] [(0,1,(Ks ([118,97,108,117,101]))),(1,4,(t 21))]),Is 8 2 22])
 .ret)
 .skip)))
 (.seq (.block 0
 (Rg ([Im 24 0,Ic 25 69 [(t 24),(Ks ([110,111,119]))],Im 23 25])
 (.cond (t 23)
 (Rg ([I1 26 (.build [(.str []),(.int .i64 0),(.int .i64 0),(.str []),.nils,(.str []),(.str []),.nils] [(0,1,(Ks ([110,111,119])))]),Is 8 2 26])
 .ret)
 (Rg ([Im 28 0,Ip 29 117 [(t 28),(Ks ([40]))],Im 27 29])
 (.cond (t 27)
 (Rg ([Im 30 0,Ic 31 240 [(t 30)],Is 8 2 31])
 .ret)
 (Rg ([Im 33 0,Ic 34 69 [(t 33),(Ks ([91]))],Im 32 34])
 (.cond (t 32)
 (Rg ([Im 35 0,Im 36 3,Ic 37 241 [(t 35),(t 36)],Is 8 2 37])
 .ret)
 (Rg ([Im 39 0,Ic 40 69 [(t 39),(Ks ([115,105,122,101]))],Im 38 40])
 (.cond (t 38)
 (Rg ([Im 41 0,Ic 42 240 [(t 41)],I1 43 (.bsl 8 [(t 42)]),I1 44 (.build [(.str []),(.int .i64 0),(.int .i64 0),(.str []),.nils,(.str []),(.str []),.nils] [(0,1,(Ks ([115,105,122,101]))),(7,1,(t 43))]),Is 8 2 44])
 .ret)
 (Rg ([Im 46 0,Ic 47 69 [(t 46),(Ks ([114,111,108,101]))],Im 45 47])
 (.cond (t 45)
 (Rg ([Im 48 0,Ic 49 71 [(t 48),(Ks ([40]))]])
 (Rg ([Im 50 0,Ic 51 120 [(t 50),(Ki 3)],I1 52 (.field false 1 1 (t 51)),I1 53 (.build [(.str []),(.int .i64 0),(.int .i64 0),(.str []),.nils,(.str []),(.str []),.nils] [(0,1,(Ks ([114,111,108,101]))),(6,1,(t 52))]),I1 6 (.alloc [(.str []),(.int .i64 0),(.int .i64 0),(.str []),.nils,(.str []),(.str []),.nils]),Is 8 6 53])
 (Rg ([Im 54 0,Ic 55 71 [(t 54),(Ks ([41]))]])
 (Rg ([Ia 56 8 6,Is 8 2 56])
 .ret))))
 (Rg ([Im 58 0,Ic 59 69 [(t 58),(Ks ([104,97,115]))],Im 57 59])
 (.cond (t 57)
 (Rg ([Im 60 0,Ic 61 71 [(t 60),(Ks ([40]))]])
 (Rg ([Im 63 0,Ic 64 118 [(t 63)],Im 62 64,Ie 65 0 62,Ie 66 1 62,Im 7 65,Im 8 66])
 (Rg ([Im 67 0,Ic 68 71 [(t 67),(Ks ([41]))]])
 (Rg ([Im 69 7,Im 70 8,I1 71 (.build [(.str []),(.int .i64 0),(.int .i64 0),(.str []),.nils,(.str []),(.str []),.nils] [(0,1,(Ks ([104,97,115]))),(5,1,(t 69)),(6,1,(t 70))]),Is 8 2 71])
 .ret))))
 .skip)))))))))))))
 (Rg ([Im 73 0,Ic 74 118 [(t 73)],Im 72 74,Ie 75 0 72,Ie 76 1 72,Im 9 75,Im 10 76])
 (Rg ([Im 77 9,Im 78 10,I1 79 (.build [(.str []),(.int .i64 0),(.int .i64 0),(.str []),.nils,(.str []),(.str []),.nils] [(0,1,(Ks ([97,116,116,114]))),(5,1,(t 77)),(6,1,(t 78))]),Is 8 2 79])
 .ret))))))
theorem XD : Fn Tryz.prog 238 80 [.inr (2,true,8)] DO:=aJ Tryz.func238 Tryz.ntmps238 Hq0
def RV : C :=
 (Rg ([I1 2 (.mv KN)])
 (.seq (Rg ([Im 3 0,I1 4 (.eq1 .slc false (t 3) KN)])
 (.cond (t 4)
 (Rg ([I1 2 (.mv KN)])
 .ret)
 .skip))
 (Rg ([I1 5 (.bslm true 4 []),Im 6 0,I1 7 (.appm true false 4 56 (t 5) (t 6)),Im 2 7])
 .ret)))
theorem Pc : Fn Tryz.prog 247 8 [.inl 2] RV:=aJ Tryz.func247 Tryz.ntmps247 Hq1
end GP
namespace GP
open Go Go.Proofs
open Rd O
set_option maxRecDepth 100000
def Ww : C :=
 (Rg ([I1 4 (.mv (Ki 0))])
 (Rg ([Im 5 0,Im 6 1,Ip 7 205 [(t 5),(t 6)],Im 4 7])
 .ret))
theorem Up : Fn Tryz.prog 176 8 [.inl 4] Ww:=aJ Tryz.func176 Tryz.ntmps176 Hq0
end GP
namespace GP
open Go Go.Proofs
theorem VN : Tryz.prog.globalNamed "internal/strconv.uint64pow10" = some 1 := by kernel_rfl
def L5 (c : Cx) (w : World) : Prop := c.bb.1 = false /\ 4 <= c.B /\ Lib.TabIs Tryz.prog w "internal/strconv.uint64pow10" .u64 Lib.pow10Tab /\ ∃ te pe, w.cell? ⟨3, 0, none⟩ = some (.iface te pe)
theorem L5.mono {c c' : Cx} {w w' : World} (hle : c.le c') (hb : Below c.bb w w') (h : L5 c w) : L5 c' w':=by
 obtain ⟨h0,h1,h2,te,pe,h3⟩:=h
 refine ⟨by rw [hle.B];exact h0,by show 4 <= c'.bb.2;rw [hle.B];exact h1,?_,te,pe,?_⟩
 ·unfold Lib.TabIs World.var? at h2 ⊢
  rw [VN] at h2 ⊢
  simp only [Option.bind_some] at h2 ⊢
  rw [hb.block 1 (by have h1' : 4 <= c.bb.2:=h1;omega)];exact h2
 ·unfold World.cell? at h3 ⊢
  rw [hb.block 3 (by have h1' : 4 <= c.bb.2:=h1;omega)];exact h3
instance hasG : HasG Tryz.prog:=⟨L5,L5.mono⟩
theorem RX {f : FuncId} {φ : List D -> Option D}
  (h : ∀ args r,φ args = some r -> ∀ (c : Cx) (w : World) (vs : List Value),HasG.G Tryz.prog c w -> Reps c args vs -> (callFunc f vs.toArray).run Tryz.prog w = .ok (.enter f vs.toArray) w ∧
   Calls Tryz.prog f vs.toArray w fun e w'=>∃ v,e = .returned v /\ Rep c r v /\ Below (false,w.heap.size) w w') : aO Tryz.prog f φ:=by
 intro args r hr args' he H T Q hQ c w vs hg k1 k2 k3
 have k3' : Reps c args vs:=by rw [<- he];exact k3.erase
 obtain ⟨g1,g2⟩:=h args r hr c w vs hg k3'
 refine .inl ⟨g1,g2.mono ?_⟩
 rintro e w' ⟨v,rfl,h1,h2⟩
 exact ⟨v,rfl,r,H,T,c,hQ,h1,k1.grownB h2,Cx.le.refl c,k2,by have:=h2.mono k1.low;rwa [show ((false,c.B) : Bool × Nat) = c.bb by rw [<- hg.1]] at this⟩
end GP
