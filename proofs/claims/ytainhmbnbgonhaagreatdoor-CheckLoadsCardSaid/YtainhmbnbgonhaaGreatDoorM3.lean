import Derived.Lib.ItoaNum
import Derived.Lib.LaidTab
import Derived.Test.YtainhmbnbgonhaaGreatDoorProg
import Derived.Test.YtainhmbnbgonhaaGreatDoorM2
set_option maxHeartbeats 4000000
open List renaming length_cons->A6A,drop_append_of_le_length->A6B,take_append_of_le_length->A6C,takeWhile_cons->A6D,drop_eq_getElem_cons->A6F,getElem?_eq_none->A6H,drop_succ_cons->A6J,append_assoc->A6K,take_left'->A6M,drop_drop->A6N
open Bool renaming false_eq_true->A6E,or_self->A6O
open Nat renaming add_mul->A6G,mul_le_mul_right->A6I,lt_or_ge->A6L
set_option linter.unusedSimpArgs false
set_option linter.unnecessarySimpa false
namespace GP
open Go Go.Proofs
open Rd O
set_option maxRecDepth 100000
def c15:C :=
 (Rg (Rq 2 [Qo 0] (Rq 4 [Qq] []))
 (.seq (Rg (Rq 11 [Qg 43 [],Qp 11,Qa 12] (Rz 14 13 [Qe 3 2,Qg 28 [t 14],Qp 15] (Rq 17 [Ql 13 16,Qa 17] (Rz 19 18 [Qc 0 2,Qd 19,Qg 45 [t 20],Qp 21] (Rq 23 [Ql 18 22,Qa 23] (Rz 25 24 [Qe 3 2,Qg 29 [t 25],Qp 26] (Rq 28 [Ql 24 27] [])))))))
 (.cond (t 28)
 (Rg ([Ip 29 43 [],Im 4 29])
 .ret)
 .skip))
 (Rg (Rq 30 [Qe 3 2,Qa 1,Qg 30 [t 30,t 31]] [Im 5 32])
 (Rg ([Im 33 5,Ip 34 46 [(t 33)],Im 6 34])
 (Rg ([Im 36 6,Ip 37 41 [(t 36)],Im 35 37,Ie 38 0 35,Ie 39 1 35,Ie 40 2 35,I1 7 (.alloc [.nils,(.str []),.nils]),Is 3 7 38,Im 8 39,Im 9 40])
 (.seq (Rg (Rq 41 [Qa 6,Qs 41,Qj .gtr 42 4096] [])
 (.cond (t 43)
 (Rg (Rq 44 [Qa 9,Qj .eql 44 3,Qa 45] (Rv 47 46 [Qa 8,Qj .eql 47 0] (Rq 49 [Qm 46 48] [Im 4 49])))
 .ret)
 .skip))
 (.seq (Rg (Rq 50 [Qa 5,Qi 50,Qj .gtr 51 600] [])
 (.cond (t 52)
 (Rg (Rq 53 [Qa 9,Qj .eql 53 13] [Im 4 54])
 .ret)
 .skip))
 (Rg ([Ia 55 3 2,Ip 56 42 [(t 55)],Im 10 56])
 (.seq (Rg (Rq 57 [Qa 10,Qj .neq 57 0] [])
 (.cond (t 58)
 (Rg (Rq 59 [Qa 9,Qa 10,Qb .eql 59 60,Qa 61] (Rv 63 62 [Qa 8,Qj .eql 63 0] (Rq 65 [Qm 62 64,Qa 65] (Rv 67 66 [Qe 3 7,.build [.nils,(.str []),.nils] [],Qg 32 [t 67,t 68]] (Rq 70 [Qm 66 69] [Im 4 70])))))
 .ret)
 .skip))
 (Rg (Rq 71 [Qa 9,Qj .eql 71 0,Qa 72] (Rv 74 73 [Qa 8,Qj .eql 74 0] (Rq 76 [Qm 73 75,Qa 76] (Rv 78 77 [Qe 3 7,Qe 3 2,Qg 32 [t 78,t 79]] (Rq 81 [Qm 77 80] [Im 4 81])))))
 .ret))))))))))
theorem A5L:Fn Tryz.prog 15 82 [.inl 4] c15:=AP Tryz.func15 Tryz.ntmps15 Hq0
def c21:C :=
 (Rg (Rq 1 [Qo 0,Qq] [])
 (Rg ([If 6 0 1,Il 7 6,Ip 8 52 [(t 7)],Im 3 8])
 (Rg (Rq 4 [Qk 0] [])
 (.seq (Rg (Rq 9 [Qa 3,Qj .eql 9 2,Qa 10] (Rz 12 11 [Qa 3,Qj .eql 12 6] (Rq 14 [Ql 11 13,Qa 14] (Rz 16 15 [Qc 0 1,Qd 16,.bin .eql (t 17) (Ks ([115,105,122,101]))] (Rq 19 [Ql 15 18] [])))))
 (.cond (t 19)
 (.reg (Rq 4 [Qk 1] []))
 .skip))
 (.seq (Rg (Rq 20 [Qa 3,Qj .eql 20 0,Qa 21] (Rz 23 22 [Qa 3,Qj .eql 23 1] (Rq 25 [Ql 22 24,Qa 25] (Rz 27 26 [Qa 3,Qj .geq 27 3,Qa 28] (Rv 30 29 [Qa 3,Qj .leq 30 5] (Rz 32 26 [Qm 29 31] (Rq 33 [Ql 26 32] [])))))))
 (.cond (t 33)
 (.reg (Rq 4 [Qk 2] []))
 .skip))
 (.seq (Rg (Rq 34 [Qa 3,Qj .lss 34 0,Qa 35] (Rz 37 36 [Qc 7 1,Qd 37,Qi 38,Qa 4,Qb .neq 39 40] (Rq 42 [Ql 36 41] [])))
 (.cond (t 42)
 (Rg (Rq 2 [Qq] [])
 .ret)
 .skip))
 (.seq (Rg (Rq 5 [Qk 0] [])
 (.block 0
 (.loop
 (.seq (Rg (Rq 43 [Qa 5,Qc 7 1,Qd 44,Qi 45,Qb .lss 43 46] [])
 (.cond (t 47)
 .skip
 (.exit 0)))
 (.seq (.block 1
 (Rg (Rq 50 [Qc 7 1,Qd 50,Qa 5,Qn 8 51 52,Qe 8 53,Qg 21 [t 54],Qp 55] [])
 (.cond (t 56)
 (Rg (Rq 2 [Qq] [])
 .ret)
 .skip)))
 (.reg (Rq 48 [Qa 5,Qj .add 48 1] [Im 5 49])))))))
 (.seq (Rg (Rq 57 [Qc 0 1,Qd 57,.bin .eql (t 58) (Ks ([118,97,108,117,101]))] [])
 (.cond (t 59)
 (Rg (Rq 60 [Qc 1 1,Qe 4 60,Qg 53 [t 61],Qa 62] (Rv 64 63 [Qc 5 1,Qd 64,.bin .eql (t 65) (Ks ([]))] (Rq 67 [Qm 63 66,Qa 67] (Rv 69 68 [Qc 6 1,Qd 69,.bin .eql (t 70) (Ks ([]))] (Rq 72 [Qm 68 71] [Im 2 72])))))
 .ret)
 .skip))
 (.seq (Rg (Rq 73 [Qc 1 1,Qe 4 73,.build [(.int .i64 0),(.int .i64 0),(.str []),.nils] [],Qg 54 [t 74,t 75],Qp 76] [])
 (.cond (t 77)
 (Rg (Rq 2 [Qq] [])
 .ret)
 .skip))
 (.seq (Rg (Rq 78 [Qc 0 1,Qd 78,.bin .eql (t 79) (Ks ([97,116,116,114])),Qa 80] (Rz 82 81 [Qc 0 1,Qd 82,.bin .eql (t 83) (Ks ([104,97,115]))] (Rq 85 [Ql 81 84] [])))
 (.cond (t 85)
 (Rg (Rq 86 [Qc 5 1,Qd 86,Qg 55 [t 87],Qa 88] (Rv 90 89 [Qc 6 1,Qd 90,Qg 56 [t 91]] (Rq 93 [Qm 89 92] [Im 2 93])))
 .ret)
 .skip))
 (.seq (Rg (Rq 94 [Qc 0 1,Qd 94,.bin .eql (t 95) (Ks ([114,111,108,101]))] [])
 (.cond (t 96)
 (Rg (Rq 97 [Qc 5 1,Qd 97,.bin .eql (t 98) (Ks ([])),Qa 99] (Rv 101 100 [Qc 6 1,Qd 101,.build [(.int .i64 0),(.str []),(.int .i64 0)] [(0,1,(Ki 3)),(1,1,(t 102))],Qg 57 [t 103]] (Rq 105 [Qm 100 104] [Im 2 105])))
 .ret)
 .skip))
 (Rg (Rq 106 [Qc 5 1,Qd 106,.bin .eql (t 107) (Ks ([])),Qa 108] (Rv 110 109 [Qc 6 1,Qd 110,.bin .eql (t 111) (Ks ([]))] (Rq 113 [Qm 109 112] [Im 2 113])))
 .ret))))))))))))
theorem A4l:Fn Tryz.prog 21 114 [.inl 2] c21:=AP Tryz.func21 Tryz.ntmps21 Hq0
def c25:C :=
 (Rg (Rq 1 [Qo 0,Qq] [])
 (Rg (Rq 3 [Qe 8 1,Qg 39 [t 3,(Ki 60)],Qj .leq 4 60,Qa 5] (Rv 7 6 [Qe 8 1,Qg 63 [t 7]] (Rq 9 [Qm 6 8] [Im 2 9])))
 .ret))
theorem A4z:Fn Tryz.prog 25 10 [.inl 2] c25:=AP Tryz.func25 Tryz.ntmps25 Hq0
def c56:C :=
 (Rg (Rq 2 [Qq] [])
 (Rg (Rq 3 [Qa 0,.build [(.int .i64 0),(.str []),(.int .i64 0)] [(0,1,(Ki 1)),(1,1,(t 3))],Qg 57 [t 4],Qa 5] (Rv 7 6 [Qg 16 [],Qa 0,Qg 62 [t 7,t 8],Qp 9] (Rq 11 [Qm 6 10] [Im 2 11])))
 .ret))
theorem A4G:Fn Tryz.prog 56 12 [.inl 2] c56:=AP Tryz.func56 Tryz.ntmps56 Hq0
def c94:C :=
 (Rg (Rq 2 [Qq] [])
 (Rg ([Ip 5 156 [],Im 3 5])
 (.seq (Rg (Rq 4 [Qk 0] [])
 (.block 0
 (.loop
 (.seq (Rg (Rq 6 [Qa 4,Qa 3,Qi 7,Qb .lss 6 8] [])
 (.cond (t 9)
 .skip
 (.exit 0)))
 (.seq (.block 1
 (Rg (Rq 12 [Qa 3,Qa 4,Qn 1 12 13,Qd 14,Qa 0,Qb .eql 15 16] [])
 (.cond (t 17)
 (Rg (Rq 2 [Qr] [])
 .ret)
 .skip)))
 (.reg (Rq 10 [Qa 4,Qj .add 10 1] [Im 4 11])))))))
 (Rg (Rq 2 [Qq] [])
 .ret))))
theorem A4b:Fn Tryz.prog 94 18 [.inl 2] c94:=AP Tryz.func94 Tryz.ntmps94 Hq0
def YI:C :=
 (Rg (Rq 6 [Qk 0] [])
 (.seq (Rg (Rq 11 [Qa 0,Qi 11,Qk 0] [])
 (.block 0
 (.loop
 (Rg (Rq 14 [Qb .lss 13 12] [])
 (.seq (.cond (t 14)
 .skip
 (.exit 0))
 (.seq (.block 1
 (Rg (Rq 15 [Qa 13,Qn 4 11 13,Qe 4 16] [I1 8 (.alloc [(.int .i64 0),(.int .i64 0),(.str []),.nils]),Im 7 15,Is 4 8 17])
 (.seq (Rg (Rq 18 [Qa 7,Qa 1,Qi 19,Qb .geq 18 20] [])
 (.cond (t 21)
 (Rg (Rq 6 [Qk 1] [])
 .ret)
 .skip))
 (Rg (Rq 22 [Qa 1,Qa 7,Qn 4 22 23,Qe 4 24] [I1 9 (.alloc [(.int .i64 0),(.int .i64 0),(.str []),.nils]),Is 4 9 25])
 (Rg (Rq 26 [Qa 2,Qe 4 8,Qe 4 9,.pcall (t 26) [t 27,t 28]] [Im 10 29])
 (Rg (Rq 30 [Qa 10,Qj .neq 30 0] [])
 (.cond (t 31)
 (Rg ([Im 32 10,Im 6 32])
 .ret)
 .skip)))))))
 (.reg (Rq 33 [Qj .add 13 1] [Im 13 33]))))))))
 (.seq (Rg (Rq 34 [Qa 0,Qi 34,Qa 1,Qi 36,Qb .lss 35 37] [])
 (.cond (t 38)
 (Rg ([I1 6 (.mv (k (.int .i64 (-1))))])
 .ret)
 .skip))
 (Rg (Rq 6 [Qk 0] [])
 .ret))))
theorem ZH:Fn Tryz.prog 116 39 [.inl 6] YI:=AP Tryz.func116 Tryz.ntmps116 Hq0
def A01:C :=
 (Rg (Rq 1 [Qo 0,Qq] [])
 (.seq (Rg (Rq 5 [Qc 0 1,Qd 5,Qj .neq 6 5] [])
 (.cond (t 7)
 (Rg ([Ia 8 4 1,Ip 9 179 [(t 8)],Im 2 9])
 .ret)
 .skip))
 (.seq (Rg (Rq 10 [Qc 3 1,Qd 10,Qi 11,Qk 0] [])
 (.block 0
 (.loop
 (Rg (Rq 14 [Qb .lss 13 12] [])
 (.seq (.cond (t 14)
 .skip
 (.exit 0))
 (.seq (.block 1
 (Rg (Rq 15 [Qa 13,Qn 4 11 13,Qe 4 16] [I1 4 (.alloc [(.int .i64 0),(.int .i64 0),(.str []),.nils]),Im 3 15,Is 4 4 17])
 (.seq (.draw 0 [(Ia 18 4 4,[]),(Ip 19 179 [(t 18)],[]),(I1 20 (.un .not (t 19)),[]),(Im 21 20,[]),(Jf 22 21 false 0 4,[]),(Jl 23 21 false 22,[]),(I3 24 21 (.bin .eql (t 23) (Ki 0)),[]),(I1 25 (.pick (t 21) KT (t 24)),[]),(Im 26 25,[]),(Jf 27 26 false 0 4,[]),(Jl 28 26 false 27,[]),(Jf 29 26 false 3 1,[]),(Jl 30 26 false 29,[]),(I3 31 26 (.iaddr 4 (t 30) (Ki 0)),[]),(Jf 32 26 false 0 31,[]),(Jl 33 26 false 32,[]),(I3 34 26 (.bin .neq (t 28) (t 33)),[]),(I1 35 (.pick (t 26) KT (t 34)),[]),(Im 36 35,[]),(Jm 37 36 false 3,[]),(I3 38 36 (.bin .gtr (t 37) (Ki 0)),[]),(Jm 39 36 false 38,[]),(Jf 40 39 true 3 1,[]),(Jl 41 39 true 40,[]),(Jm 42 39 true 3,[]),(I2 43 39 (.bin .sub (t 42) (Ki 1)),[]),(I2 44 39 (.iaddr 4 (t 41) (t 43)),[]),(I2 45 39 (.load true 4 (t 44)),[]),(I2 46 39 (.load true 4 (t 4)),[]),(I2 47 39 (.pcall (Kf 64) [(t 45),(t 46)]),[]),(I2 48 39 (.bin .geq (t 47) (Ki 0)),[]),(I3 49 36 (.pick (t 39) (t 48) KF),[]),(I1 50 (.pick (t 36) KT (t 49)),[])])
 (.cond (t 50)
 (Rg (Rq 2 [Qq] [])
 .ret)
 .skip))))
 (.reg (Rq 51 [Qj .add 13 1] [Im 13 51]))))))))
 (Rg (Rq 52 [Qc 1 1,Qd 52,Qj .eql 53 0,Qa 54] (Rv 56 55 [Qc 2 1,Qd 56,.bin .eql (t 57) (Ks ([]))] (Rq 59 [Qm 55 58,Qa 59] (Rv 61 60 [Qc 3 1,Qd 61,Qi 62,Qj .leq 63 16] (Rq 65 [Qm 60 64] [Im 2 65])))))
 .ret))))
theorem A0V:Fn Tryz.prog 129 66 [.inl 2] A01:=AP Tryz.func129 Tryz.ntmps129 Hq0
def UX:C :=
 (Rg (Rq 2 [Qq] [])
 (Rg (Rq 3 [Qa 0,.bin .geq (t 3) (k (.int .u8 97)),Qa 4] (Rv 6 5 [Qa 0,.bin .leq (t 6) (k (.int .u8 122))] (Rq 8 [Qm 5 7,Qa 8] (Rz 10 9 [Qa 0,.bin .eql (t 10) (k (.int .u8 95))] (Rq 12 [Ql 9 11] [Im 2 12])))))
 .ret))
theorem A1x:Fn Tryz.prog 147 13 [.inl 2] UX:=AP Tryz.func147 Tryz.ntmps147 Hq0
def A2q:C :=
 (Rg (Rq 2 [Qq] [])
 (Rg (Rq 3 [Qa 0,.bin .geq (t 3) (k (.int .u8 48)),Qa 4] (Rv 6 5 [Qa 0,.bin .leq (t 6) (k (.int .u8 57))] (Rq 8 [Qm 5 7] [Im 2 8])))
 .ret))
theorem A1X:Fn Tryz.prog 148 9 [.inl 2] A2q:=AP Tryz.func148 Tryz.ntmps148 Hq0
def A16:C :=
 (Rg (Rq 1 [Qo 0,Qk 0] [])
 (Rg (Rq 3 [Qk 0] [])
 (.seq (.draw 0 [(Ip 7 98 [],[]),(If 8 1 1,[]),(Il 9 8,[]),(Ip 10 47 [(t 7),(t 9)],[]),(Im 4 10,[])])
 (.seq (Rg (Rq 11 [Qc 2 1,Qd 11,Qi 12,Qk 0] [])
 (.block 0
 (.loop
 (Rg (Rq 15 [Qb .lss 14 13] [])
 (.seq (.cond (t 15)
 .skip
 (.exit 0))
 (.seq (.block 1
 (Rg (Rq 16 [Qn 13 12 14,Qe 13 16] [I1 6 (.alloc [(.str []),(.str []),(.str []),(.bool false),(.str []),(.int .i64 0),(.int .i64 0),(.str []),.nils,(.str []),(.str []),.nils,.nils]),Is 13 6 17])
 (.seq (.draw 0 [(Im 18 4,[]),(Im 19 18,[]),(I2 20 19 (.pcall (Kf 98) []),[]),(Jf 21 19 true 2 6,[]),(Jl 22 19 true 21,[]),(I2 23 19 (.pcall (Kf 47) [(t 20),(t 22)]),[]),(I1 24 (.pick (t 19) (t 23) KF),[]),(Im 4 24,[])])
 (.reg (Rq 25 [Qa 3,Qc 12 6,Qd 26,Qi 27,Qb .add 25 28] [Im 3 29])))))
 (.reg (Rq 30 [Qj .add 14 1] [Im 14 30]))))))))
 (.seq (.block 2
 (Rg (Rq 32 [Qa 4,Qp 32] [Im 31 33])
 (.cond (t 31)
 (Rg (Rq 2 [Qk 8] [])
 .ret)
 (Rg (Rq 35 [Qa 3,Qj .gtr 35 24] [Im 34 36])
 (.cond (t 34)
 (Rg (Rq 2 [Qk 13] [])
 .ret)
 .skip)))))
 (Rg (Rq 2 [Qk 0] [])
 .ret))))))
theorem Z7:Fn Tryz.prog 154 37 [.inl 2] A16:=AP Tryz.func154 Tryz.ntmps154 Hq0
def A1P:C :=
 (Rg (Rq 2 [Qk 0] [])
 (.seq (Rg ([Im 3 0])
 (.block 0
 (.seq (Rg ([I1 5 (.bin .eql (t 3) (Ks ([118,97,108,117,101]))),Im 4 5])
 (.cond (t 4)
 .skip
 (Rg ([I1 6 (.bin .eql (t 3) (Ks ([110,111,119]))),Im 4 6])
 (.cond (t 4)
 .skip
 (Rg ([I1 7 (.bin .eql (t 3) (Ks ([97,116,116,114]))),Im 4 7])
 (.cond (t 4)
 .skip
 (Rg ([I1 8 (.bin .eql (t 3) (Ks ([104,97,115]))),Im 4 8])
 (.cond (t 4)
 .skip
 (.reg [I1 9 (.bin .eql (t 3) (Ks ([114,111,108,101]))),Im 4 9])))))))))
 (.cond (t 4)
 (Rg (Rq 2 [Qk 0] [])
 .ret)
 (.seq (Rg ([I1 11 (.bin .eql (t 3) (Ks ([110,111,116]))),Im 10 11])
 (.cond (t 10)
 .skip
 (Rg ([I1 12 (.bin .eql (t 3) (Ks ([110,101,103]))),Im 10 12])
 (.cond (t 10)
 .skip
 (.reg [I1 13 (.bin .eql (t 3) (Ks ([115,105,122,101]))),Im 10 13])))))
 (.cond (t 10)
 (Rg (Rq 2 [Qk 1] [])
 .ret)
 (.seq (Rg ([I1 15 (.bin .eql (t 3) (Ks ([97,110,100]))),Im 14 15])
 (.cond (t 14)
 .skip
 (Rg ([I1 16 (.bin .eql (t 3) (Ks ([111,114]))),Im 14 16])
 (.cond (t 14)
 .skip
 (Rg ([I1 17 (.bin .eql (t 3) (Ks ([43]))),Im 14 17])
 (.cond (t 14)
 .skip
 (Rg ([I1 18 (.bin .eql (t 3) (Ks ([45]))),Im 14 18])
 (.cond (t 14)
 .skip
 (Rg ([I1 19 (.bin .eql (t 3) (Ks ([42]))),Im 14 19])
 (.cond (t 14)
 .skip
 (Rg ([I1 20 (.bin .eql (t 3) (Ks ([61,61]))),Im 14 20])
 (.cond (t 14)
 .skip
 (Rg ([I1 21 (.bin .eql (t 3) (Ks ([33,61]))),Im 14 21])
 (.cond (t 14)
 .skip
 (Rg ([I1 22 (.bin .eql (t 3) (Ks ([60]))),Im 14 22])
 (.cond (t 14)
 .skip
 (Rg ([I1 23 (.bin .eql (t 3) (Ks ([60,61]))),Im 14 23])
 (.cond (t 14)
 .skip
 (Rg ([I1 24 (.bin .eql (t 3) (Ks ([62]))),Im 14 24])
 (.cond (t 14)
 .skip
 (Rg ([I1 25 (.bin .eql (t 3) (Ks ([62,61]))),Im 14 25])
 (.cond (t 14)
 .skip
 (.reg [I1 26 (.bin .eql (t 3) (Ks ([105,110]))),Im 14 26])))))))))))))))))))))))
 (.cond (t 14)
 (Rg (Rq 2 [Qk 2] [])
 .ret)
 .skip))))))))
 (Rg ([I1 2 (.mv (k (.int .i64 (-1))))])
 .ret)))
theorem ZR:Fn Tryz.prog 158 27 [.inl 2] A1P:=AP Tryz.func158 Tryz.ntmps158 Hq0
def YC:C :=
 (Rg (Rq 4 [Qk 0] [])
 (.seq (.block 0
 (Rg (Rq 6 [Qa 0,.bin .eql (t 6) (Ks ([110,111,116])),Qa 7] (Rv 9 8 [Qa 1,Qj .eql 9 1] (Rq 11 [Qm 8 10] [Im 5 11])))
 (.cond (t 5)
 (Rg (Rq 4 [Qk 1] [])
 .ret)
 (.seq (Rg (Rq 13 [Qa 0,.bin .eql (t 13) (Ks ([110,101,103])),Qa 14] (Rv 16 15 [Qa 1,Qj .eql 16 2] (Rq 18 [Qm 15 17] [Im 12 18])))
 (.cond (t 12)
 .skip
 (.reg (Rq 19 [Qa 0,.bin .eql (t 19) (Ks ([115,105,122,101])),Qa 20] (Rv 22 21 [Qa 1,Qj .gtr 22 10] (Rq 24 [Qm 21 23] [Im 12 24]))))))
 (.cond (t 12)
 (Rg (Rq 4 [Qk 2] [])
 .ret)
 .skip)))))
 (Rg (Rq 4 [Qk 0] [])
 .ret)))
theorem A1Z:Fn Tryz.prog 160 25 [.inl 4] YC:=AP Tryz.func160 Tryz.ntmps160 Hq0
def Xg:C :=
 (Rg (Rq 2 [Qq] [])
 (Rg (Rq 3 [Qa 0,Qa 0,Qb .neq 3 4] [Im 2 5])
 .ret))
theorem A17:Fn Tryz.prog 174 6 [.inl 2] Xg:=AP Tryz.func174 Tryz.ntmps174 Hq0
def Lx:C :=
 (Rg (Rq 3 [Qo 1,Qk 0,Qk 0] [])
 (.seq (Rg (Rq 8 [Qc 0 3,Qd 8,.bin .eql (t 9) (Ks ([110,111,119]))] [])
 (.cond (t 10)
 (Rg (Rq 4 [Qk 4,Qk 0] [])
 .ret)
 .skip))
 (.seq (Rg (Rq 11 [Qc 0 3,Qd 11,.bin .eql (t 12) (Ks ([114,111,108,101]))] [])
 (.cond (t 13)
 (Rg (Rq 4 [Qk 1,Qk 0] [])
 .ret)
 .skip))
 (.seq (Rg (Rq 14 [Qc 0 3,Qd 14,.bin .eql (t 15) (Ks ([118,97,108,117,101]))] [])
 (.cond (t 16)
 (.seq (Rg (Rq 17 [Qc 1 3,Qe 4 17,Qg 107 [t 18],Qp 19,Qa 20] (Rz 22 21 [Qc 1 3,Qc 0 22,Qd 23,Qj .eql 24 0] (Rq 26 [Ql 21 25,Qa 26] (Rz 28 27 [Qc 1 3,Qc 0 28,Qd 29,Qj .eql 30 5,Qa 31] (Rv 33 32 [Qc 1 3,Qc 3 33,Qd 34,Qi 35,Qj .eql 36 0] (Rz 38 27 [Qm 32 37] (Rq 39 [Ql 27 38] [])))))))
 (.cond (t 39)
 (Rg (Rq 4 [Qk 0,Qk 2] [])
 .ret)
 .skip))
 (.seq (Rg (Rq 40 [Qc 1 3,Qc 0 40,Qd 41,Qj .eql 42 5] [])
 (.cond (t 43)
 (Rg (Rq 44 [Qc 1 3,Qc 3 44,Qd 45,.iaddr 4 (t 46) (Ki 0),Qc 0 47,Qd 48,.bin .add (Ki 10) (t 49)] (Rq 4 [Qa 50,Qk 0] []))
 .ret)
 .skip))
 (Rg (If 51 1 3::If 52 0 51::Il 53 52::Rq 4 [Qa 53,Qk 0] [])
 .ret)))
 .skip))
 (.seq (Rg (Rq 6 [Qk 0] [])
 (.block 0
 (.loop
 (.seq (Rg (Rq 54 [Qa 6,Qa 0,Qi 55,Qb .lss 54 56] [])
 (.cond (t 57)
 .skip
 (.exit 0)))
 (.seq (.block 1
 (.seq (.seq (.draw 0 [(Im 60 0,[]),(Im 61 6,[]),(I1 62 (.iaddr 4 (t 60) (t 61)),[]),(If 63 0 62,[]),(Il 64 63,[]),(If 65 5 3,[]),(Il 66 65,[]),(I1 67 (.bin .neq (t 64) (t 66)),[]),(Im 68 67,[]),(Jm 69 68 false 0,[]),(Jm 70 68 false 6,[]),(I3 71 68 (.iaddr 4 (t 69) (t 70)),[]),(Jf 72 68 false 1 71,[]),(Jl 73 68 false 72,[]),(Jf 74 68 false 6 3,[]),(Jl 75 68 false 74,[]),(I3 76 68 (.bin .neq (t 73) (t 75)),[]),(I1 77 (.pick (t 68) KT (t 76)),[])])
 (.cond (t 77)
 (.exit 1)
 .skip))
 (.seq (Rg (Rq 78 [Qc 0 3,Qd 78,.bin .eql (t 79) (Ks ([104,97,115]))] [])
 (.cond (t 80)
 (Rg (Rq 81 [Qa 0,Qa 6,Qn 4 81 82,Qe 4 83,Qg 212 [t 84]] (Rq 4 [Qk 1,Qa 85] []))
 .ret)
 .skip))
 (Rg (Rq 86 [Qa 0,Qa 6,Qn 4 86 87,Qc 2 88,Qd 89] [Im 7 90])
 (.seq (Rg (Rq 91 [Qa 0,Qa 6,Qn 4 91 92,Qc 3 93,Qd 94] [])
 (.cond (t 95)
 (.reg (Rq 96 [Qa 7,Qj .add 96 10] [Im 7 97]))
 .skip))
 (.seq (Rg (Rq 98 [Qa 7,Qj .eql 98 0] [])
 (.cond (t 99)
 (Rg (Rq 4 [Qk 0,Qk 8] [])
 .ret)
 .skip))
 (Rg (Im 100 7::Rq 4 [Qa 100,Qk 0] [])
 .ret)))))))
 (.reg (Rq 58 [Qa 6,Qj .add 58 1] [Im 6 59])))))))
 (Rg (Rq 4 [Qk 0,Qk 8] [])
 .ret))))))
theorem A1U:Fn Tryz.prog 194 101 [.inl 4,.inl 5] Lx:=AP Tryz.func194 Tryz.ntmps194 Hq0
def A0N:C :=
 (Rg ([I1 2 (.alloc [(.str []),(.int .i64 0),(.int .i64 0),(.str []),.nils,(.str []),(.str []),.nils])])
 (Rg ([Im 6 0,Ic 7 217 [(t 6)],I1 3 (.alloc [(.str []),(.int .i64 0),(.int .i64 0),(.str []),.nils,(.str []),(.str []),.nils]),Is 8 3 7])
 (.seq (Rg (Rq 8 [.bsl 1 [(Ks ([61,61])),(Ks ([33,61])),(Ks ([60])),(Ks ([60,61])),(Ks ([62])),(Ks ([62,61])),(Ks ([105,110]))],Qi 8,Qk 0] [])
 (.block 0
 (.loop
 (Rg (Rq 11 [Qb .lss 10 9] [])
 (.seq (.cond (t 11)
 .skip
 (.exit 0))
 (.seq (.block 1
 (Rg (Rq 12 [Qn 1 8 10,Qd 12] [Im 5 13])
 (Rg (Rq 14 [Qa 0,Qa 5,Qf 69 [t 14,t 15]] [])
 (.cond (t 16)
 (.seq (.draw 0 [(Im 17 5,[]),(Ia 18 8 3,[]),(Im 19 0,[]),(Ic 20 217 [(t 19)],[Ia 18 8 3]),(Ip 21 169 [(t 17),(t 18),(t 20)],[]),(Is 8 2 21,[])])
 .ret)
 .skip))))
 (.reg (Rq 22 [Qj .add 10 1] [Im 10 22]))))))))
 (Rg ([Ia 23 8 3,Is 8 2 23])
 .ret))))
theorem A1o:Fn Tryz.prog 202 24 [.inr (2,true,8)] A0N:=AP Tryz.func202 Tryz.ntmps202 Hq0
def Mf:C :=
 (Rg ([I1 2 (.alloc [(.str []),(.int .i64 0),(.int .i64 0),(.str []),.nils,(.str []),(.str []),.nils])])
 (Rg ([Im 11 0,In 12 11,If 13 1 12,Il 14 13,Im 3 14])
 (.seq (Rg ([Im 16 0,Ic 17 239 [(t 16)],Im 15 17,Ie 18 0 15,Ie 19 1 15,I1 4 (.alloc [(.int .i64 0),(.int .i64 0),(.str []),.nils]),Is 4 4 18,Im 5 19])
 (Rg ([Im 20 5])
 (.cond (t 20)
 (Rg ([Ia 21 4 4,I1 22 (.build [(.str []),(.int .i64 0),(.int .i64 0),(.str []),.nils,(.str []),(.str []),.nils] [(0,1,(Ks ([118,97,108,117,101]))),(1,4,(t 21))]),Is 8 2 22])
 .ret)
 .skip)))
 (.seq (.block 0
 (Rg ([Im 24 0,Ic 25 69 [(t 24),(Ks ([110,111,119]))],Im 23 25])
 (.cond (t 23)
 (Rg ([I1 26 (.build [(.str []),(.int .i64 0),(.int .i64 0),(.str []),.nils,(.str []),(.str []),.nils] [(0,1,(Ks ([110,111,119])))]),Is 8 2 26])
 .ret)
 (Rg ([Im 28 0,Ip 29 117 [(t 28),(Ks ([40]))],Im 27 29])
 (.cond (t 27)
 (Rg ([Im 30 0,Ic 31 240 [(t 30)],Is 8 2 31])
 .ret)
 (Rg ([Im 33 0,Ic 34 69 [(t 33),(Ks ([91]))],Im 32 34])
 (.cond (t 32)
 (Rg (Rq 35 [Qa 0,Qa 3,Qf 241 [t 35,t 36]] [Is 8 2 37])
 .ret)
 (Rg ([Im 39 0,Ic 40 69 [(t 39),(Ks ([115,105,122,101]))],Im 38 40])
 (.cond (t 38)
 (Rg (Rq 41 [Qa 0,Qf 240 [t 41],.bsl 8 [t 42],.build [(.str []),(.int .i64 0),(.int .i64 0),(.str []),.nils,(.str []),(.str []),.nils] [(0,1,(Ks ([115,105,122,101]))),(7,1,(t 43))]] [Is 8 2 44])
 .ret)
 (Rg ([Im 46 0,Ic 47 69 [(t 46),(Ks ([114,111,108,101]))],Im 45 47])
 (.cond (t 45)
 (Rg ([Im 48 0,Ic 49 71 [(t 48),(Ks ([40]))]])
 (Rg (Rq 50 [Qa 0,Qf 120 [t 50,(Ki 3)],.field false 1 1 (t 51),.build [(.str []),(.int .i64 0),(.int .i64 0),(.str []),.nils,(.str []),(.str []),.nils] [(0,1,(Ks ([114,111,108,101]))),(6,1,(t 52))]] [I1 6 (.alloc [(.str []),(.int .i64 0),(.int .i64 0),(.str []),.nils,(.str []),(.str []),.nils]),Is 8 6 53])
 (Rg ([Im 54 0,Ic 55 71 [(t 54),(Ks ([41]))]])
 (Rg ([Ia 56 8 6,Is 8 2 56])
 .ret))))
 (Rg ([Im 58 0,Ic 59 69 [(t 58),(Ks ([104,97,115]))],Im 57 59])
 (.cond (t 57)
 (Rg ([Im 60 0,Ic 61 71 [(t 60),(Ks ([40]))]])
 (Rg ([Im 63 0,Ic 64 118 [(t 63)],Im 62 64,Ie 65 0 62,Ie 66 1 62,Im 7 65,Im 8 66])
 (Rg ([Im 67 0,Ic 68 71 [(t 67),(Ks ([41]))]])
 (Rg (Rq 69 [Qa 7,Qa 8,.build [(.str []),(.int .i64 0),(.int .i64 0),(.str []),.nils,(.str []),(.str []),.nils] [(0,1,(Ks ([104,97,115]))),(5,1,(t 69)),(6,1,(t 70))]] [Is 8 2 71])
 .ret))))
 .skip)))))))))))))
 (Rg ([Im 73 0,Ic 74 118 [(t 73)],Im 72 74,Ie 75 0 72,Ie 76 1 72,Im 9 75,Im 10 76])
 (Rg (Rq 77 [Qa 9,Qa 10,.build [(.str []),(.int .i64 0),(.int .i64 0),(.str []),.nils,(.str []),(.str []),.nils] [(0,1,(Ks ([97,116,116,114]))),(5,1,(t 77)),(6,1,(t 78))]] [Is 8 2 79])
 .ret))))))
theorem ZO:Fn Tryz.prog 238 80 [.inr (2,true,8)] Mf:=AP Tryz.func238 Tryz.ntmps238 Hq0
def VU:C :=
 (Rg ([I1 2 (.mv KN)])
 (.seq (Rg ([Im 3 0,I1 4 (.eq1 .slc false (t 3) KN)])
 (.cond (t 4)
 (Rg ([I1 2 (.mv KN)])
 .ret)
 .skip))
 (Rg (Rq 5 [.bslm true 4 [],Qa 0,.appm true false 4 56 (t 5) (t 6)] [Im 2 7])
 .ret)))
theorem VP:Fn Tryz.prog 247 8 [.inl 2] VU:=AP Tryz.func247 Tryz.ntmps247 Hq1
end GP
namespace GP
open Go Go.Proofs
open Rd O
set_option maxRecDepth 100000
def A0E:C :=
 (Rg (Rq 4 [Qk 0] [])
 (Rg ([Im 5 0,Im 6 1,Ip 7 205 [(t 5),(t 6)],Im 4 7])
 .ret))
theorem Y9:Fn Tryz.prog 176 8 [.inl 4] A0E:=AP Tryz.func176 Tryz.ntmps176 Hq0
end GP
namespace GP
open Go Go.Proofs
theorem A1Q: Tryz.prog.globalNamed "internal/strconv.uint64pow10" = some 1 := by kernel_rfl
def S1(c : Cx)(w : World): Prop := c.bb.1 = false /\ 4 <= c.B /\ Lib.TabIs Tryz.prog w "internal/strconv.uint64pow10" .u64 Lib.pow10Tab /\ ∃ te pe, w.cell? ⟨3, 0, none⟩ = some (.iface te pe)
theorem S1.mono{c c':Cx}{w w':World}(hle:c.le c')(hb:Below c.bb w w')(h:S1 c w):S1 c' w':=by
 obtain⟨h0,h1,h2,te,pe,h3⟩:=h
 refine⟨by rw[hle.B];exact h0,by show 4<=c'.bb.2;rw[hle.B];exact h1,?_,te,pe,?_⟩
 ·unfold Lib.TabIs World.var? at h2 ⊢
  rw[A1Q] at h2 ⊢
  simp only[Option.bind_some] at h2 ⊢
  rw[hb.block 1 (by have h1':4<=c.bb.2:=h1;omega)];exact h2
 ·unfold World.cell? at h3 ⊢
  rw[hb.block 3 (by have h1':4<=c.bb.2:=h1;omega)];exact h3
instance hasG:HasG Tryz.prog:=⟨S1,S1.mono⟩
theorem Se{f:FuncId}{φ:List D->Option D}
  (h:∀args r,φ args=some r->∀(c:Cx) (w:World) (vs:List Value),HasG.G Tryz.prog c w->Reps c args vs->(callFunc f vs.toArray).run Tryz.prog w= .ok (.enter f vs.toArray) w ∧
   Calls Tryz.prog f vs.toArray w fun e w'=>∃v,e= .returned v/\Rep c r v/\Below (false,w.heap.size) w w'):AQ Tryz.prog f φ:=by
 intro args r hr args' he H T Q hQ c w vs hg k1 k2 k3
 have k3':Reps c args vs:=by rw[<- he];exact k3.erase
 obtain⟨g1,g2⟩:=h args r hr c w vs hg k3'
 refine .inl ⟨g1,g2.mono ?_⟩
 rintro e w' ⟨v,rfl,h1,h2⟩
 exact⟨v,rfl,r,H,T,c,hQ,h1,k1.grownB h2,Cx.le.refl c,k2,by have:=h2.mono k1.low;rwa [show((false,c.B):Bool×Nat)=c.bb by rw[<- hg.1]] at this⟩
end GP
namespace GP
open Go
theorem tf(b:Bool):b=true∨b=false:=by cases b<;>simp
theorem DV(x:D)(xs:List D):AX (x::xs)=x.cells++AX xs:=by simp[AX]
theorem MQ(xs ys:List D):AX (xs++ys)=AX xs++AX ys:=by simp[AX]
def Fm(sz:Nat)(xs:List D):Prop:=∀x∈xs,∃l,x= .agg l/\l.length=sz
theorem Fm.len{sz:Nat}{xs:List D}(h:Fm sz xs):∀x∈xs,x.cells.length=sz:=fun x hx=>by
 obtain⟨l,rfl,hl⟩:=h x hx;exact hl
theorem Fm.fit{sz:Nat}{xs:List D}(h:Fm sz xs):xs.all (fit sz)=true:=List.all_eq_true.2 fun x hx=>by
 obtain⟨l,rfl,hl⟩:=h x hx;simp[GP.fit,D.okc,D.cells,hl]
theorem Fm.flat{sz:Nat}{xs:List D}(h:Fm sz xs):(AX xs).length=xs.length*sz:=fJ h.len
theorem Fm.sub{sz:Nat}{xs ys:List D}(h:Fm sz xs)(k:∀y∈ys,y∈xs):Fm sz ys:=fun y hy=>h y (k y hy)
theorem Fm.set{sz:Nat}{xs:List D}(h:Fm sz xs){x:D}(hx:∃l,x= .agg l/\l.length=sz)(i:Nat):Fm sz (xs.set i x):=fun y hy=>by
 rcases List.mem_or_eq_of_mem_set hy with h'|rfl
 ·exact h y h'
 ·exact hx
theorem H7{sz:Nat}:∀(xs:List D) (i:Nat),(∀x∈xs,x.cells.length=sz)->(AX xs).drop (i*sz)=AX (xs.drop i)
 | [],i,_=>by simp[AX]
 | x::xs,0,_=>by simp
 | x::xs,i+1,h=>by
  rw[DV,A6J,← H7 xs i (fun y hy=>h y (by simp[hy])),show(i+1)*sz=x.cells.length+i*sz by rw[h x (by simp)];rw[A6G];omega,← A6N,List.drop_left]
theorem H5{sz:Nat}:∀(xs:List D) (i:Nat),(∀x∈xs,x.cells.length=sz)->(AX xs).take (i*sz)=AX (xs.take i)
 | [],i,_=>by simp[AX]
 | x::xs,0,_=>by simp[AX]
 | x::xs,i+1,h=>by
  rw[DV,List.take_succ_cons,DV,← H5 xs i (fun y hy=>h y (by simp[hy])),show(i+1)*sz=x.cells.length+i*sz by rw[h x (by simp)];rw[A6G];omega,List.take_length_add_append]
theorem Gz{sz:Nat}:∀(xs:List D) (rest:List D),Fm sz xs->Bd true sz xs.length (AX xs++rest)=xs
 | [],_,_=>rfl
 | x::xs,rest,h=>by
  obtain⟨l,rfl,hl⟩:=h x (by simp)
  simp only[A6A,Bd,if_true,DV,D.cells,A6K]
  rw[A6M hl,List.drop_left' hl,Gz xs rest (h.sub fun y hy=>by simp[hy])]
theorem PK{sz:Nat}{xs rest:List D}{H:Hp}{o i off:Nat}{x:D}(ho:H[o]? =some (.row (AX xs++rest)))(h:Fm sz xs)(hx:xs[i]? =some x)(hoff:off=i*sz):ld true sz (Bx H (.ptr o off))=some x:=by
 subst hoff
 have hi:i<xs.length:=by
  rcases A6L i xs.length with h'|h'
  ·exact h'
  ·rw[A6H h'] at hx;cases hx
 obtain⟨l,rfl,hl⟩:=h x (List.mem_of_getElem? hx)
 have hd:(AX xs++rest).drop (i*sz)=l++(AX (xs.drop (i+1))++rest):=by
  rw[A6B (by rw[h.flat];exact A6I _ (by omega)),H7 xs i h.len]
  have:xs.drop i=xs[i]::xs.drop (i+1):=A6F hi
  rw[this,DV]
  have:xs[i]= .agg l:=by rw[List.getElem?_eq_getElem hi] at hx;injection hx
  rw[this];simp[D.cells]
 simp only[Bx,ho,hd,ld,if_true]
 rw[if_pos (by simp[hl]),A6M hl]
theorem YV{sz:Nat}{xs rest:List D}{H:Hp}{t:Nat->D}{T:Tk}{o i off:Nat}{x:D}{K:D->S->Prop}(ho:H[o]? =some (.row (AX xs++rest)))(h:Fm sz xs)(hx:∃l,x= .agg l/\l.length=sz)(hi:i<xs.length)(hoff:off=i*sz)
  (k:K .top ⟨t,H.set o (.row (AX (xs.set i x)++rest)),T⟩):fF sz K ⟨t,H,T⟩ (.ptr o off) x:=by
 subst hoff
 obtain⟨l,rfl,hl⟩:=hx
 have hle:i*sz+sz<=xs.length*sz:=by
  have:=A6I sz (show i+1<=xs.length from hi)
  rwa [A6G,Nat.one_mul] at this
 simp only[fF,ho]
 refine⟨rfl,hl,by simp[h.flat];omega,?_⟩
 have e:(AX xs++rest).take (i*sz)++D.cells (.agg l)++(AX xs++rest).drop (i*sz+sz)=AX (xs.set i (.agg l))++rest:=by
  rw[A6C (by rw[h.flat];omega),A6B (by rw[h.flat];omega),H5 xs i h.len,
   show i*sz+sz=(i+1)*sz by rw[A6G];omega,H7 xs (i+1) h.len,List.set_eq_take_append_cons_drop,if_pos hi,MQ,DV]
  simp
 rw[e];exact k
theorem K3{ag:Bool}{sz o off n cap i:Nat}{k:IntKind}(h:i<n):ia sz (.ms ag sz o off n cap) (.int k (i:Nat))=some (.ptr o (off+i*sz)):=by
 have e:((i:Nat):Int).toNat=i:=by omega
 simp only[ia]
 rw[if_pos (by refine⟨by omega,by omega,?_⟩;trivial),e]
theorem MP{ag:Bool}{sz o off n cap l h:Nat}(h1:l<=h)(h2:h<=n)(h3:l<cap):slc sz (some ((l:Nat):Int)) (some ((h:Nat):Int)) (.ms ag sz o off n cap)=some (.ms ag sz o (off+l*sz) (h - l) (cap - l)):=by
 have e1:((l:Nat):Int).toNat=l:=by omega
 have e2:(((h:Nat):Int) - ((l:Nat):Int)).toNat=h - l:=by omega
 simp only[slc]
 rw[if_pos (by refine⟨by omega,by omega,by omega,by omega,?_⟩;trivial),e1,e2]
theorem Tb{ag:Bool}{sz o off n cap h:Nat}(h2:h<=n)(h3:0<cap):slc sz (some (0:Int)) (some ((h:Nat):Int)) (.ms ag sz o off n cap)=some (.ms ag sz o off h cap):=by
 have:=MP (ag:=ag) (sz:=sz) (o:=o) (off:=off) (n:=n) (cap:=cap) (l:=0) (h:=h) (by omega) h2 h3
 simpa using this
theorem WF{sz:Nat}{z xs rest:List D}{H:Hp}{t:Nat->D}{T:Tk}{o q n cap off:Nat}{ag:Bool}{K:D->S->Prop}(ho:H[o]? =some (.row (AX xs++rest)))(h:Fm sz xs)(hz:z.length=sz)(hq:q+n=xs.length)(hoff:off=q*sz)
  (k:∀rest',K (.tup []) ⟨t,H.set o (.row (AX (xs.take q)++rest')),T⟩):LI z K ⟨t,H,T⟩ (.ms ag sz o off n cap):=by
 subst hoff
 have hle:q*sz+n*sz=xs.length*sz:=by rw[<- hq,A6G]
 simp only[LI,ho]
 refine⟨hz.symm,by simp[h.flat];omega,?_⟩
 rw[A6C (by rw[h.flat];omega),H5 xs q h.len,A6K]
 exact k _
end GP
namespace GP
open Go Go.Proofs
set_option maxRecDepth 100000
theorem Xd(a:Int):IntKind.i64.wrap a=if a%2^64 ≥ 2^63 then a%2^64 - 2^64 else a%2^64:=by simp[IntKind.wrap,IntKind.bits,IntKind.signed]
theorem FU{a:Int}(h1: -(2^63)<=a)(h2:a<2^63):IntKind.i64.wrap a=a:=by rw[Xd];split<;>omega
theorem Bw(n:Nat)(h:n<2^61):IntKind.i64.wrap ((n:Int)+1)=((n+1:Nat):Int):=by rw[FU (by omega) (by omega)];rfl
theorem YD(l:List UInt8)(k:IntKind)(n:Int):ixs (.str l) (.int k n)=if 0<=n then(l[n.toNat]?).map fun b=>.int .u8 b.toNat else none:=rfl
theorem Eu{l:List UInt8}{i:Nat}{b:UInt8}(h:l[i]? =some b)(k:IntKind):ixs (.str l) (.int k (i:Int))=some (.int .u8 b.toNat):=by
 rw[YD,if_pos (by omega)];simp[h]
def yA(n:Int):Bool:=(decide (97<=n)&&decide (n<=122))||n==95
def cU(n:Int):Bool:=decide (48<=n)&&decide (n<=57)
def BM(n:Int):Bool:=yA n||cU n
def D6(n:Int):Bool:=decide (32<=n)&&decide (n<=126)
def CX(n:Int):Bool:=n !=10
def φb(p:Int->Bool):List D->Option D
 | [.int .u8 n]=>some (.bool (p n))
 | _=>none
theorem SZ:AQ Tryz.prog 147 (φb yA):=by
 refine AN (l:=[]) .nil A1x fun args r h=>?_
 unfold φb at h
 split at h
 ·rename_i n
  injection h with h;subst h
  refine⟨by simp,by simp[D.cl],fun H T=>?_⟩
  unfold yA
  rcases tf (decide (97<=n)) with h1|h1
  ·rcases tf (decide (n<=122)) with h2|h2
   ·simp +contextual only[UX,h1,h2,go_sem]
   ·simp +contextual only[UX,h1,h2,go_sem]
  ·simp +contextual only[UX,h1,go_sem]
 ·cases h
theorem Pf:AQ Tryz.prog 148 (φb cU):=by
 refine AN (l:=[]) .nil A1X fun args r h=>?_
 unfold φb at h
 split at h
 ·rename_i n
  injection h with h;subst h
  refine⟨by simp,by simp[D.cl],fun H T=>?_⟩
  unfold cU
  rcases tf (decide (48<=n)) with h1|h1<;>simp +contextual only[A2q,h1,go_sem]
 ·cases h
theorem ZJ:AQ Tryz.prog 200 (φb D6):=by
 refine AN (l:=[]) .nil A0X fun args r h=>?_
 unfold φb at h
 split at h
 ·rename_i n
  injection h with h;subst h
  refine⟨by simp,by simp[D.cl],fun H T=>?_⟩
  unfold D6
  rcases tf (decide (32<=n)) with h1|h1<;>simp +contextual only[Ym,h1,go_sem]
 ·cases h
theorem ZZ:AQ Tryz.prog 145 (φb CX):=by
 refine AN (l:=[]) .nil ZU fun args r h=>?_
 unfold φb at h
 split at h
 ·rename_i n
  injection h with h;subst h
  refine⟨by simp,by simp[D.cl],fun H T=>?_⟩
  unfold CX
  simp +contextual only[ZB,go_sem]
 ·cases h
theorem A2a:AQ Tryz.prog 199 (φb BM):=by
 refine AN (l:=[(147,φb yA),(148,φb cU)]) (.cons SZ (.cons Pf .nil)) A0P fun args r h=>?_
 unfold φb at h
 split at h
 ·rename_i n
  injection h with h;subst h
  refine⟨by simp,by simp[D.cl],fun H T=>?_⟩
  unfold BM
  have p1:φb yA [.int .u8 n]=some (.bool (yA n)):=rfl
  have p2:φb cU [.int .u8 n]=some (.bool (cU n)):=rfl
  rcases tf (yA n) with h1|h1<;>simp +contextual only[Yk,p1,p2,h1,go_sem]
 ·cases h
theorem YB:AQ Tryz.prog 146 (φb BM):=by
 refine AN (l:=[(147,φb yA),(148,φb cU)]) (.cons SZ (.cons Pf .nil)) ZX fun args r h=>?_
 unfold φb at h
 split at h
 ·rename_i n
  injection h with h;subst h
  refine⟨by simp,by simp[D.cl],fun H T=>?_⟩
  unfold BM
  have p1:φb yA [.int .u8 n]=some (.bool (yA n)):=rfl
  have p2:φb cU [.int .u8 n]=some (.bool (cU n)):=rfl
  rcases tf (yA n) with h1|h1<;>simp +contextual only[Yy,p1,p2,h1,go_sem]
 ·cases h
def CS(p:Int->Bool)(l:List UInt8):Nat:=(l.takeWhile fun b=>p (b.toNat:Int)).length
def Cz(p:Int->Bool)(l:List UInt8)(a:Nat):Nat:=CS p (l.drop a)
theorem UP(p:Int->Bool)(l:List UInt8):CS p l<=l.length:=(List.takeWhile_prefix _).sublist.length_le
theorem qV{p:Int->Bool}:∀{l:List UInt8} {i:Nat},(∀j b,j<i->l[j]? =some b->p b.toNat=true)->i<=l.length->(i=l.length∨∃b,l[i]? =some b/\p b.toNat=false)->CS p l=i
 | [],i,_,h,_=>by simp at h;subst h;rfl
 | c::l,0,_,_,h=>by
  rcases h with h|⟨b,h1,h2⟩
  ·simp at h
  ·simp at h1;subst h1;simp[CS,h2]
 | c::l,i+1,h,hi,he=>by
  have hc:=h 0 c (by omega) rfl
  have:=qV (p:=p) (l:=l) (i:=i) (fun j b hj hb=>h (j+1) b (by omega) (by simpa using hb)) (by simpa using hi) (by simpa using he)
  simp only[CS,A6D,hc,if_true,A6A] at this ⊢
  omega
theorem UY{p:Int->Bool}{l:List UInt8}{a i:Nat}(h:∀j b,j<i->l[a+j]? =some b->p b.toNat=true)(hi:a+i<=l.length)(he:a+i=l.length∨∃b,l[a+i]? =some b/\p b.toNat=false):Cz p l a=i :=
 qV (fun j b hj hb=>h j b hj (by simpa using hb)) (by simp;omega) (he.imp (fun h=>by simp;omega) (fun⟨b,h1,h2⟩=>⟨b,by simpa using h1,h2⟩))
theorem Hr(p:Int->Bool)(l:List UInt8)(a:Nat)(h:a<=l.length):a+Cz p l a<=l.length:=by
 have:=UP p (l.drop a)
 unfold Cz;simp at this;omega
def JA(f:Nat):Option (Int->Bool):=if f=199 then some BM else if f=148 then some cU else if f=200 then some D6 else if f=145 then some CX else if f=146 then some BM else none
def lst:Fs:=[(199,φb BM),(148,φb cU),(200,φb D6),(145,φb CX),(146,φb BM)]
theorem Vz:Ok Tryz.prog lst:=.cons A2a (.cons Pf (.cons ZJ (.cons ZZ (.cons YB .nil))))
theorem SG{f:Nat}{p:Int->Bool}(h:JA f=some p)(n:Int):DQ lst f [.int .u8 n]=some (.bool (p n)):=by
 unfold JA at h
 split at h
 ·rename_i e;subst e;injection h with h;subst h;rfl
 split at h
 ·rename_i e;subst e;injection h with h;subst h;rfl
 split at h
 ·rename_i e;subst e;injection h with h;subst h;rfl
 split at h
 ·rename_i e;subst e;injection h with h;subst h;rfl
 split at h
 ·rename_i e;subst e;injection h with h;subst h;rfl
 ·cases h
def Df:List D->Option D
 | [.str l,.int .i64 a,.fn f [] []]=>match JA f with
  | some p=>if 0<=a/\a<=l.length/\l.length<=2^60 then some (.int .i64 (Cz p l a.toNat)) else none
  | none=>none
 | _=>none
theorem P9:AQ Tryz.prog 144 Df:=by
 refine AN Vz A1r fun args r h=>?_
 unfold Df at h
 split at h
 ·rename_i l a f
  split at h
  ·rename_i p hp
   split at h
   ·rename_i hc
    obtain⟨ha0,ha,hl⟩:=hc
    injection h with h;subst h
    obtain⟨a,rfl⟩:∃k:Nat,a=(k:Int):=⟨a.toNat,by omega⟩
    have ha:a<=l.length:=by omega
    refine⟨by simp,by simp[D.cl],fun H T=>?_⟩
    rw[show((a:Int)).toNat=a from by omega]
    have pl:=fun n=>SG hp n
    simp +contextual only[A1e,go_sem]
    refine Ap (fun i s'=>s'.t 0= .str l/\s'.t 1= .int .i64 a/\s'.t 2= .fn f [] []/\s'.t 7= .int .i64 ((a+i:Nat):Int)/\s'.H=H/\s'.T=T/\a+i<=l.length/\∀j b,j<i->l[a+j]? =some b->p b.toNat=true) l.length ⟨0,by simp[upd,Ae,ha]⟩ (fun i s h=>by have:=h.2.2.2.2.2.2.1;omega) ?_ (AR _)
    rintro i ⟨t,B,T'⟩ ⟨r0,r1,r2,r7,rfl,rfl,hi,hc⟩
    simp only at r0 r1 r2 r7
    have fin:∀{k:Nat},k=i->(a+k=l.length∨∃b,l[a+k]? =some b/\p b.toNat=false)->Cz p l a=k:=fun e h=>by subst e;exact UY hc hi h
    have wS:IntKind.i64.wrap (((a+i:Nat):Int) - (a:Int))=(i:Int):=by rw[FU (by omega) (by omega)];omega
    by_cases hlt:a+i<l.length
    ·have d1:decide (((a+i:Nat):Int)<l.length)=true:=by simp only[decide_eq_true_eq];omega
     have ex:l[a+i]? =some l[a+i]:=by simp[hlt]
     obtain⟨b,hb⟩:∃b,l[a+i]=b:=⟨_,rfl⟩
     rw[hb] at ex
     have q:=pl (b.toNat:Int)
     have ix:=fun k=>Eu ex k
     rcases tf (p (b.toNat:Int)) with g|g
     ·have hnx:∀j b,j<i+1->l[a+j]? =some b->p b.toNat=true:=fun j c hj hc'=>by
       rcases A6L j i with h'|h'
       ·exact hc j c h' hc'
       ·have:j=i:=by omega
        subst this;rw[ex] at hc';injection hc' with hc';subst hc';exact g
      simp +contextual only[r0,r1,r2,r7,d1,ix,q,g,Bw (a+i) (by omega),go_sem]
      exact⟨by rw[Nat.add_assoc],by omega,hnx⟩
     ·have hr:=fin rfl (.inr ⟨b,ex,g⟩)
      rw[hr]
      simp +contextual only[r0,r1,r2,r7,d1,ix,q,g,wS,go_sem]
    ·have d1:decide (((a+i:Nat):Int)<l.length)=false:=by simp only[decide_eq_false_iff_not];omega
     have hr:=fin rfl (.inl (by omega))
     rw[hr]
     simp +contextual only[r0,r1,r2,r7,d1,wS,go_sem]
   ·cases h
  ·cases h
 ·cases h
def DD:Bool->List UInt8->Nat
 | _,[]=>0
 | true,c::r=>if c==10 then 1+DD false r else 1+DD true r
 | false,c::r=>if c==32||c==10 then 1+DD false r else if c==35 then 1+DD true r else 0
theorem eE:∀(b:Bool) (l:List UInt8),DD b l<=l.length
 | b,[]=>by cases b<;>simp[DD]
 | true,c::r=>by
  have h1:=eE false r;have h2:=eE true r
  simp only[DD,A6A];split<;>omega
 | false,c::r=>by
  have h1:=eE false r;have h2:=eE true r
  simp only[DD,A6A];split
  ·omega
  ·split<;>omega
def CF(l:List UInt8)(a:Nat):Nat:=a+DD false (l.drop a)
theorem gH{l:List UInt8}{a:Nat}(h:a<=l.length):a<=CF l a/\CF l a<=l.length:=by
 have:=eE false (l.drop a)
 unfold CF;simp at this;omega
theorem NW:∀(l:List UInt8),DD true l=CS CX l+DD false (l.drop (CS CX l))
 | []=>rfl
 | c::r=>by
  have ih:=NW r
  by_cases h:c=10
  ·subst h;simp[DD,CS,CX]
  ·have h1:(c==10)=false:=by simpa using h
   have h2:CX (c.toNat:Int)=true:=by
    simp only[CX,bne_iff_ne,ne_eq]
    intro e;apply h
    exact UInt8.toNat_inj.1 (by simpa using(by omega:c.toNat=10))
   simp only[DD,h1,A6E,if_false,CS,A6D,h2,if_true,A6A,A6J]
   simp only[CS] at ih
   omega
theorem qF{l:List UInt8}{a:Nat}{b:UInt8}(h:l[a]? =some b):l.drop a=b::l.drop (a+1):=by
 have hlt:a<l.length:=by
  rcases A6L a l.length with h'|h'
  ·exact h'
  ·rw[A6H h'] at h;cases h
 have:l[a]=b:=by simpa[hlt] using h
 rw[<- this];exact A6F hlt
theorem GN(b:UInt8)(n:Nat)(hn:n<256):((b.toNat:Int)==(n:Int))=(b==UInt8.ofNat n):=by
 rw[Bool.eq_iff_iff,beq_iff_eq,beq_iff_eq]
 constructor
 ·intro h
  have h:b.toNat=n:=by omega
  rw[<- h];simp
 ·rintro rfl
  simp[UInt8.toNat_ofNat,Nat.mod_eq_of_lt hn]
def J2:List D->Option D
 | [.str l,.int .i64 a]=>if 0<=a/\a<=l.length/\l.length<=2^60 then some (.int .i64 (CF l a.toNat:Nat)) else none
 | _=>none
theorem A31:AQ Tryz.prog 91 J2:=by
 refine AN (l:=[(144,Df)]) (.cons P9 .nil) A5C fun args r h=>?_
 unfold J2 at h
 split at h
 ·rename_i l a
  split at h
  ·rename_i hc
   obtain⟨ha0,ha,hl⟩:=hc
   injection h with h;subst h
   obtain⟨a,rfl⟩:∃k:Nat,a=(k:Int):=⟨a.toNat,by omega⟩
   have ha:a<=l.length:=by omega
   refine⟨by simp,by simp[D.cl],fun H T=>?_⟩
   rw[show((a:Int)).toNat=a from by omega]
   simp +contextual only[c91,go_sem]
   refine Ap (fun i s'=>s'.t 0= .str l/\s'.H=H/\s'.T=T/\i<=l.length/\∃k:Nat,s'.t 1= .int .i64 (k:Int)/\i<=k/\k<=l.length/\CF l k=CF l a) l.length ⟨0,by simp[upd,Ae];exact⟨a,rfl,ha,rfl⟩⟩ (fun i s h=>h.2.2.2.1) ?_ (AR _)
   rintro i ⟨t,B,T'⟩ ⟨r0,rfl,rfl,hi,k,r1,h1,h2,h3⟩
   simp only at r0 r1
   by_cases hlt:k<l.length
   ·have d1:decide ((k:Int)<l.length)=true:=by simp only[decide_eq_true_eq];omega
    have ex:l[k]? =some l[k]:=by simp[hlt]
    obtain⟨b,hb⟩:∃b,l[k]=b:=⟨_,rfl⟩
    rw[hb] at ex
    have ix:=fun q=>Eu ex q
    have dr:=qF ex
    have e1:((b.toNat:Int)==32)=(b==32):=GN b 32 (by decide)
    have e2:((b.toNat:Int)==10)=(b==10):=GN b 10 (by decide)
    have e3:((b.toNat:Int)==35)=(b==35):=GN b 35 (by decide)
    have blank:(b==32||b==10)=true->CF l (k+1)=CF l a:=fun h=>by
     rw[<- h3];unfold CF;rw[dr];simp only[DD];rw[if_pos h];omega
    rcases tf (b==32) with g1|g1
    ·have hB:=blank (by rw[g1];rfl)
     simp +contextual only[r0,r1,d1,ix,e1,g1,Bw k (by omega),go_sem]
     exact⟨by omega,k+1,rfl,by omega,by omega,hB⟩
    rcases tf (b==10) with g2|g2
    ·have hB:=blank (by rw[g1,g2];rfl)
     simp +contextual only[r0,r1,d1,ix,e1,e2,g1,g2,Bw k (by omega),go_sem]
     exact⟨by omega,k+1,rfl,by omega,by omega,hB⟩
    rcases tf (b==35) with g3|g3
    ·have pr:Df [.str l,.int .i64 (k:Int),.fn 145 [] []]=some (.int .i64 (Cz CX l k:Nat)):=by
      simp only[Df];rw[show JA 145=some CX from rfl];simp only;rw[if_pos ⟨by omega,by omega,by omega⟩];simp
     have hle:=Hr CX l k (by omega)
     have hnote:CX (b.toNat:Int)=true:=by
      simp only[CX,bne];rw[e2,g2];rfl
     have hrun:Cz CX l k=1+CS CX (l.drop (k+1)):=by
      unfold Cz CS;rw[dr];simp only[A6D,hnote,if_true,A6A];omega
     have hB:CF l (k+Cz CX l k)=CF l a:=by
      rw[<- h3];unfold CF
      rw[dr]
      have:DD false (b::l.drop (k+1))=1+DD true (l.drop (k+1)):=by
       simp only[DD,g1,g2,g3,A6O,A6E,if_false,if_true]
      rw[this,NW,A6N,hrun,show k+1+CS CX (l.drop (k+1))=k+(1+CS CX (l.drop (k+1))) from by omega]
      omega
     have wS:IntKind.i64.wrap ((k:Int)+((Cz CX l k:Nat):Int))=((k+Cz CX l k:Nat):Int):=by rw[FU (by omega) (by omega)];omega
     simp +contextual only[r0,r1,d1,ix,e1,e2,e3,g1,g2,g3,pr,wS,go_sem]
     exact⟨by omega,k+Cz CX l k,rfl,by omega,hle,hB⟩
    ·have hB:CF l a=k:=by
      rw[<- h3];unfold CF;rw[dr];simp only[DD,g1,g2,g3,A6O,A6E,if_false];rfl
     rw[hB]
     simp +contextual only[r0,r1,d1,ix,e1,e2,e3,g1,g2,g3,go_sem]
   ·have d1:decide ((k:Int)<l.length)=false:=by simp only[decide_eq_false_iff_not];omega
    have hB:CF l a=k:=by
     rw[<- h3];unfold CF;rw[List.drop_eq_nil_of_le (by omega)];rfl
    rw[hB]
    simp +contextual only[r0,r1,d1,go_sem]
  ·cases h
 ·cases h
def lB:List (List UInt8):=[[61,61],[33,61],[60,61],[62,61],[123],[125],[40],[41],[91],[93],[59],[46],[44],[43],[45],[42],[60],[62]]
def FV:List D->Option D
 | []=>some (.sl none (lB.map .str))
 | _=>none
theorem VF:AQ Tryz.prog 151 FV:=by
 refine AN (l:=[]) .nil A0b fun args r h=>?_
 unfold FV at h
 split at h
 ·injection h with h;subst h
  refine⟨by simp,by decide,fun H T=>?_⟩
  simp +contextual only[A08,go_sem]
  rfl
 ·cases h
def F9(l p:List UInt8):Bool:=l.take p.length==p
def Gu:List D->Option D
 | [.str l,.str p]=>some (.bool (F9 l p))
 | _=>none
theorem A1L:AQ Tryz.prog 186 Gu:=by
 refine AN (l:=[]) .nil Yi fun args r h=>?_
 unfold Gu at h
 split at h
 ·rename_i l p
  injection h with h;subst h
  refine⟨by simp,by simp[D.cl],fun H T=>?_⟩
  unfold F9
  by_cases hl:p.length<=l.length
  ·have d1:decide ((p.length:Int)<=l.length)=true:=by simp only[decide_eq_true_eq];omega
   have hs:sub (some 0) (some (p.length:Int)) (.str l)=some (.str (l.take p.length)):=by
    rw[Oz,if_pos ⟨by omega,by omega,by omega⟩];simp[aH]
   simp +contextual only[Wl,d1,hs,go_sem]
  ·have d1:decide ((p.length:Int)<=l.length)=false:=by simp only[decide_eq_false_iff_not];omega
   have hf:(l.take p.length==p)=false:=by
    rw[beq_eq_false_iff_ne];intro e
    have:=congrArg List.length e
    simp at this;omega
   simp +contextual only[Wl,d1,hf,go_sem]
 ·cases h
theorem YN:AQ Tryz.prog 152 Gu:=by
 refine AN (l:=[(186,Gu)]) (.cons A1L .nil) Zs fun args r h=>?_
 unfold Gu at h
 split at h
 ·rename_i l p
  injection h with h;subst h
  refine⟨by simp,by simp[D.cl],fun H T=>?_⟩
  have q:Gu [.str l,.str p]=some (.bool (F9 l p)):=rfl
  simp +contextual only[Zu,q,go_sem]
 ·cases h
def Fk:List UInt8->List UInt8->Nat->List UInt8×Nat
 | [],_,_=>([],0)
 | c::r,out,k =>
  if c==34 then(out,k+1) else
  if c==92 then(match r with
   | []=>([],0)
   | d::r=>if(d !=34)&&(d !=92) then([],0) else if decide (64<out.length+1) then([],0) else Fk r (out++[d]) (k+2)) else
  if !(D6 c.toNat) then([],0) else if decide (64<out.length+1) then([],0) else Fk r (out++[c]) (k+1)
def MM(l:List UInt8)(a:Nat):List UInt8×Nat:=Fk (l.drop (a+1)) [] 1
def Hz(p:List UInt8×Nat):D:=.tup [.str p.1,.int .i64 (p.2:Nat)]
def Ik:List D->Option D
 | [.str l,.int .i64 a]=>if 0<=a/\a+1<=l.length/\l.length<=2^60 then some (Hz (MM l a.toNat)) else none
 | _=>none
theorem Tt(p:List UInt8×Nat):(Hz p).cl 0 0=true:=by simp[Hz,D.cl,D.clL]
end GP
