import Derived.Conc.EntryLaws
import Derived.Ground.NamesProg
import Derived.Ground.SlsfProg
import Derived.Lib.Bytealg
import Derived.Lib.ItoaNum
import Derived.Lib.LaidTab
import Derived.Shelf.Lay
import Derived.Shelf.Strconv.Itoa4
import Derived.Shelf.Strconv.ParseIntPublic10
import Derived.Test.YtainhmbnbgonhaaGreatDoorProg
import Derived.Test.YtainhmbnbgonhaaGreatDoorM4
import Derived.Test.YtainhmbnbgonhaaGreatDoorM5
set_option linter.unusedSimpArgs false
set_option linter.unnecessarySimpa false
namespace GP
open Go Go.Proofs
open Rd O
set_option maxRecDepth 100000
def c21 : C :=
 (.seq (.reg [I1 1 (.box (t 0)),I1 2 (.mv KF)])
 (.seq (.reg [If 6 0 1,Il 7 6,Ip 8 52 [(t 7)],Im 3 8])
 (.seq (.reg [I1 4 (.mv (Ki 0))])
 (.seq (.seq (.reg [Im 9 3,I1 10 (.bin .eql (t 9) (Ki 2)),Im 11 10,Jm 12 11 false 3,I3 13 11 (.bin .eql (t 12) (Ki 6)),I1 14 (.pick (t 11) KT (t 13)),Im 15 14,Jf 16 15 false 0 1,Jl 17 15 false 16,I3 18 15 (.bin .eql (t 17) (Ks ([115,105,122,101]))),I1 19 (.pick (t 15) KT (t 18))])
 (.cond (t 19)
 (.reg [I1 4 (.mv (Ki 1))])
 .skip))
 (.seq (.seq (.reg [Im 20 3,I1 21 (.bin .eql (t 20) (Ki 0)),Im 22 21,Jm 23 22 false 3,I3 24 22 (.bin .eql (t 23) (Ki 1)),I1 25 (.pick (t 22) KT (t 24)),Im 26 25,Jm 27 26 false 3,I3 28 26 (.bin .geq (t 27) (Ki 3)),Jm 29 26 false 28,Jm 30 29 true 3,I2 31 29 (.bin .leq (t 30) (Ki 5)),I3 32 26 (.pick (t 29) (t 31) KF),I1 33 (.pick (t 26) KT (t 32))])
 (.cond (t 33)
 (.reg [I1 4 (.mv (Ki 2))])
 .skip))
 (.seq (.seq (.reg [Im 34 3,I1 35 (.bin .lss (t 34) (Ki 0)),Im 36 35,Jf 37 36 false 7 1,Jl 38 36 false 37,I3 39 36 (.len (t 38)),Jm 40 36 false 4,I3 41 36 (.bin .neq (t 39) (t 40)),I1 42 (.pick (t 36) KT (t 41))])
 (.cond (t 42)
 (.seq (.reg [I1 2 (.mv KF)])
 .ret)
 .skip))
 (.seq (.seq (.reg [I1 5 (.mv (Ki 0))])
 (.block 0
 (.loop
 (.seq (.seq (.reg [Im 43 5,If 44 7 1,Il 45 44,Iz 46 45,I1 47 (.bin .lss (t 43) (t 46))])
 (.cond (t 47)
 .skip
 (.exit 0)))
 (.seq (.block 1
 (.seq (.reg [If 50 7 1,Il 51 50,Im 52 5,I1 53 (.iaddr 8 (t 51) (t 52)),Ia 54 8 53,Ip 55 21 [(t 54)],I1 56 (.un .not (t 55))])
 (.cond (t 56)
 (.seq (.reg [I1 2 (.mv KF)])
 .ret)
 .skip)))
 (.reg [Im 48 5,I1 49 (.bin .add (t 48) (Ki 1)),Im 5 49]))))))
 (.seq (.seq (.reg [If 57 0 1,Il 58 57,I1 59 (.bin .eql (t 58) (Ks ([118,97,108,117,101])))])
 (.cond (t 59)
 (.seq (.reg [If 60 1 1,Ia 61 4 60,Ip 62 53 [(t 61)],Im 63 62,Jf 64 63 true 5 1,Jl 65 63 true 64,I2 66 63 (.bin .eql (t 65) (Ks ([]))),I1 67 (.pick (t 63) (t 66) KF),Im 68 67,Jf 69 68 true 6 1,Jl 70 68 true 69,I2 71 68 (.bin .eql (t 70) (Ks ([]))),I1 72 (.pick (t 68) (t 71) KF),Im 2 72])
 .ret)
 .skip))
 (.seq (.seq (.reg [If 73 1 1,Ia 74 4 73,I1 75 (.build [(.int .i64 0),(.int .i64 0),(.str []),.nils] []),Ip 76 54 [(t 74),(t 75)],I1 77 (.un .not (t 76))])
 (.cond (t 77)
 (.seq (.reg [I1 2 (.mv KF)])
 .ret)
 .skip))
 (.seq (.seq (.reg [If 78 0 1,Il 79 78,I1 80 (.bin .eql (t 79) (Ks ([97,116,116,114]))),Im 81 80,Jf 82 81 false 0 1,Jl 83 81 false 82,I3 84 81 (.bin .eql (t 83) (Ks ([104,97,115]))),I1 85 (.pick (t 81) KT (t 84))])
 (.cond (t 85)
 (.seq (.reg [If 86 5 1,Il 87 86,Ip 88 55 [(t 87)],Im 89 88,Jf 90 89 true 6 1,Jl 91 89 true 90,I2 92 89 (.pcall (Kf 56) [(t 91)]),I1 93 (.pick (t 89) (t 92) KF),Im 2 93])
 .ret)
 .skip))
 (.seq (.seq (.reg [If 94 0 1,Il 95 94,I1 96 (.bin .eql (t 95) (Ks ([114,111,108,101])))])
 (.cond (t 96)
 (.seq (.reg [If 97 5 1,Il 98 97,I1 99 (.bin .eql (t 98) (Ks ([]))),Im 100 99,Jf 101 100 true 6 1,Jl 102 100 true 101,I2 103 100 (.build [(.int .i64 0),(.str []),(.int .i64 0)] [(0,1,(Ki 3)),(1,1,(t 102))]),I2 104 100 (.pcall (Kf 57) [(t 103)]),I1 105 (.pick (t 100) (t 104) KF),Im 2 105])
 .ret)
 .skip))
 (.seq (.reg [If 106 5 1,Il 107 106,I1 108 (.bin .eql (t 107) (Ks ([]))),Im 109 108,Jf 110 109 true 6 1,Jl 111 109 true 110,I2 112 109 (.bin .eql (t 111) (Ks ([]))),I1 113 (.pick (t 109) (t 112) KF),Im 2 113])
 .ret))))))))))))
theorem fn21 : Fn Tryz.prog 21 114 [.inl 2] c21:=⟨⟨_,_,Tryz.func21,rfl,by kernel_rfl,Tryz.ntmps21,by kernel_rfl,Hq0,by kernel_rfl⟩⟩
def c25 : C :=
 (.seq (.reg [I1 1 (.box (t 0)),I1 2 (.mv KF)])
 (.seq (.reg [Ia 3 8 1,Ip 4 39 [(t 3),(Ki 60)],I1 5 (.bin .leq (t 4) (Ki 60)),Im 6 5,I2 7 6 (.load true 8 (t 1)),I2 8 6 (.pcall (Kf 63) [(t 7)]),I1 9 (.pick (t 6) (t 8) KF),Im 2 9])
 .ret))
theorem fn25 : Fn Tryz.prog 25 10 [.inl 2] c25:=⟨⟨_,_,Tryz.func25,rfl,by kernel_rfl,Tryz.ntmps25,by kernel_rfl,Hq0,by kernel_rfl⟩⟩
def c56 : C :=
 (.seq (.reg [I1 2 (.mv KF)])
 (.seq (.reg [Im 3 0,I1 4 (.build [(.int .i64 0),(.str []),(.int .i64 0)] [(0,1,(Ki 1)),(1,1,(t 3))]),Ip 5 57 [(t 4)],Im 6 5,I2 7 6 (.pcall (Kf 16) []),Jm 8 6 true 0,I2 9 6 (.pcall (Kf 62) [(t 7),(t 8)]),I2 10 6 (.un .not (t 9)),I1 11 (.pick (t 6) (t 10) KF),Im 2 11])
 .ret))
theorem fn56 : Fn Tryz.prog 56 12 [.inl 2] c56:=⟨⟨_,_,Tryz.func56,rfl,by kernel_rfl,Tryz.ntmps56,by kernel_rfl,Hq0,by kernel_rfl⟩⟩
def c78 : C :=
 (.seq (.reg [I1 1 (.box (t 0)),I1 2 (.mv KF)])
 (.seq (.block 0
 (.seq (.reg [Ia 4 4 1,Ip 5 129 [(t 4)],I1 6 (.un .not (t 5)),Im 3 6])
 (.cond (t 3)
 (.seq (.reg [I1 2 (.mv KF)])
 .ret)
 (.seq (.reg [If 8 0 1,Il 9 8,I1 10 (.bin .neq (t 9) (Ki 5)),Im 7 10])
 (.cond (t 7)
 (.seq (.reg [Ia 11 4 1,Ip 12 130 [(t 11),(Ki 0)],Im 2 12])
 .ret)
 .skip)))))
 (.seq (.reg [If 13 3 1,Il 14 13,Iz 15 14,I1 16 (.bin .gtr (t 15) (Ki 0)),Im 17 16,Jf 18 17 true 3 1,Jl 19 17 true 18,I2 20 17 (.pcall (Kf 131) [(t 19),(Kf 132)]),I2 21 17 (.un .not (t 20)),I1 22 (.pick (t 17) (t 21) KF),Im 2 22])
 .ret)))
theorem fn78 : Fn Tryz.prog 78 23 [.inl 2] c78:=⟨⟨_,_,Tryz.func78,rfl,by kernel_rfl,Tryz.ntmps78,by kernel_rfl,Hq0,by kernel_rfl⟩⟩
def c116 : C :=
 (.seq (.reg [I1 6 (.mv (Ki 0))])
 (.seq (.seq (.reg [Im 11 0,Iz 12 11,I1 13 (.mv (Ki 0))])
 (.block 0
 (.loop
 (.seq (.reg [I1 14 (.bin .lss (t 13) (t 12))])
 (.seq (.cond (t 14)
 .skip
 (.exit 0))
 (.seq (.block 1
 (.seq (.reg [Im 15 13,I1 16 (.iaddr 4 (t 11) (t 13)),Ia 17 4 16,I1 8 (.alloc [(.int .i64 0),(.int .i64 0),(.str []),.nils]),Im 7 15,Is 4 8 17])
 (.seq (.seq (.reg [Im 18 7,Im 19 1,Iz 20 19,I1 21 (.bin .geq (t 18) (t 20))])
 (.cond (t 21)
 (.seq (.reg [I1 6 (.mv (Ki 1))])
 .ret)
 .skip))
 (.seq (.reg [Im 22 1,Im 23 7,I1 24 (.iaddr 4 (t 22) (t 23)),Ia 25 4 24,I1 9 (.alloc [(.int .i64 0),(.int .i64 0),(.str []),.nils]),Is 4 9 25])
 (.seq (.reg [Im 26 2,Ia 27 4 8,Ia 28 4 9,I1 29 (.pcall (t 26) [(t 27),(t 28)]),Im 10 29])
 (.seq (.reg [Im 30 10,I1 31 (.bin .neq (t 30) (Ki 0))])
 (.cond (t 31)
 (.seq (.reg [Im 32 10,Im 6 32])
 .ret)
 .skip)))))))
 (.reg [I1 33 (.bin .add (t 13) (Ki 1)),Im 13 33])))))))
 (.seq (.seq (.reg [Im 34 0,Iz 35 34,Im 36 1,Iz 37 36,I1 38 (.bin .lss (t 35) (t 37))])
 (.cond (t 38)
 (.seq (.reg [I1 6 (.mv (k (.int .i64 (-1))))])
 .ret)
 .skip))
 (.seq (.reg [I1 6 (.mv (Ki 0))])
 .ret))))
theorem fn116 : Fn Tryz.prog 116 39 [.inl 6] c116:=⟨⟨_,_,Tryz.func116,rfl,by kernel_rfl,Tryz.ntmps116,by kernel_rfl,Hq0,by kernel_rfl⟩⟩
def c129 : C :=
 (.seq (.reg [I1 1 (.box (t 0)),I1 2 (.mv KF)])
 (.seq (.seq (.reg [If 5 0 1,Il 6 5,I1 7 (.bin .neq (t 6) (Ki 5))])
 (.cond (t 7)
 (.seq (.reg [Ia 8 4 1,Ip 9 179 [(t 8)],Im 2 9])
 .ret)
 .skip))
 (.seq (.seq (.reg [If 10 3 1,Il 11 10,Iz 12 11,I1 13 (.mv (Ki 0))])
 (.block 0
 (.loop
 (.seq (.reg [I1 14 (.bin .lss (t 13) (t 12))])
 (.seq (.cond (t 14)
 .skip
 (.exit 0))
 (.seq (.block 1
 (.seq (.reg [Im 15 13,I1 16 (.iaddr 4 (t 11) (t 13)),Ia 17 4 16,I1 4 (.alloc [(.int .i64 0),(.int .i64 0),(.str []),.nils]),Im 3 15,Is 4 4 17])
 (.seq (.draw 0 [(Ia 18 4 4,[]),(Ip 19 179 [(t 18)],[]),(I1 20 (.un .not (t 19)),[]),(Im 21 20,[]),(Jf 22 21 false 0 4,[]),(Jl 23 21 false 22,[]),(I3 24 21 (.bin .eql (t 23) (Ki 0)),[]),(I1 25 (.pick (t 21) KT (t 24)),[]),(Im 26 25,[]),(Jf 27 26 false 0 4,[]),(Jl 28 26 false 27,[]),(Jf 29 26 false 3 1,[]),(Jl 30 26 false 29,[]),(I3 31 26 (.iaddr 4 (t 30) (Ki 0)),[]),(Jf 32 26 false 0 31,[]),(Jl 33 26 false 32,[]),(I3 34 26 (.bin .neq (t 28) (t 33)),[]),(I1 35 (.pick (t 26) KT (t 34)),[]),(Im 36 35,[]),(Jm 37 36 false 3,[]),(I3 38 36 (.bin .gtr (t 37) (Ki 0)),[]),(Jm 39 36 false 38,[]),(Jf 40 39 true 3 1,[]),(Jl 41 39 true 40,[]),(Jm 42 39 true 3,[]),(I2 43 39 (.bin .sub (t 42) (Ki 1)),[]),(I2 44 39 (.iaddr 4 (t 41) (t 43)),[]),(I2 45 39 (.load true 4 (t 44)),[]),(I2 46 39 (.load true 4 (t 4)),[]),(I2 47 39 (.pcall (Kf 64) [(t 45),(t 46)]),[]),(I2 48 39 (.bin .geq (t 47) (Ki 0)),[]),(I3 49 36 (.pick (t 39) (t 48) KF),[]),(I1 50 (.pick (t 36) KT (t 49)),[])])
 (.cond (t 50)
 (.seq (.reg [I1 2 (.mv KF)])
 .ret)
 .skip))))
 (.reg [I1 51 (.bin .add (t 13) (Ki 1)),Im 13 51])))))))
 (.seq (.reg [If 52 1 1,Il 53 52,I1 54 (.bin .eql (t 53) (Ki 0)),Im 55 54,Jf 56 55 true 2 1,Jl 57 55 true 56,I2 58 55 (.bin .eql (t 57) (Ks ([]))),I1 59 (.pick (t 55) (t 58) KF),Im 60 59,Jf 61 60 true 3 1,Jl 62 60 true 61,I2 63 60 (.len (t 62)),I2 64 60 (.bin .leq (t 63) (Ki 16)),I1 65 (.pick (t 60) (t 64) KF),Im 2 65])
 .ret))))
theorem fn129 : Fn Tryz.prog 129 66 [.inl 2] c129:=⟨⟨_,_,Tryz.func129,rfl,by kernel_rfl,Tryz.ntmps129,by kernel_rfl,Hq0,by kernel_rfl⟩⟩
def c131 : C :=
 (.seq (.reg [I1 4 (.mv KF)])
 (.seq (.reg [Im 5 0,Im 6 1,Ip 7 180 [(t 5),(t 6)],I1 8 (.bin .geq (t 7) (Ki 0)),Im 4 8])
 .ret))
theorem fn131 : Fn Tryz.prog 131 9 [.inl 4] c131:=⟨⟨_,_,Tryz.func131,rfl,by kernel_rfl,Tryz.ntmps131,by kernel_rfl,Hq0,by kernel_rfl⟩⟩
def c134 : C :=
 (.seq (.reg [I1 2 (.mv KF)])
 (.seq (.reg [Im 3 0,I1 4 (.build [(.int .i64 0),(.str []),(.int .i64 0)] [(0,1,(Ki 1)),(1,1,(t 3))]),Ip 5 166 [(t 4)],Im 2 5])
 .ret))
theorem fn134 : Fn Tryz.prog 134 6 [.inl 2] c134:=⟨⟨_,_,Tryz.func134,rfl,by kernel_rfl,Tryz.ntmps134,by kernel_rfl,Hq0,by kernel_rfl⟩⟩
def c147 : C :=
 (.seq (.reg [I1 2 (.mv KF)])
 (.seq (.reg [Im 3 0,I1 4 (.bin .geq (t 3) (k (.int .u8 97))),Im 5 4,Jm 6 5 true 0,I2 7 5 (.bin .leq (t 6) (k (.int .u8 122))),I1 8 (.pick (t 5) (t 7) KF),Im 9 8,Jm 10 9 false 0,I3 11 9 (.bin .eql (t 10) (k (.int .u8 95))),I1 12 (.pick (t 9) KT (t 11)),Im 2 12])
 .ret))
theorem fn147 : Fn Tryz.prog 147 13 [.inl 2] c147:=⟨⟨_,_,Tryz.func147,rfl,by kernel_rfl,Tryz.ntmps147,by kernel_rfl,Hq0,by kernel_rfl⟩⟩
def c148 : C :=
 (.seq (.reg [I1 2 (.mv KF)])
 (.seq (.reg [Im 3 0,I1 4 (.bin .geq (t 3) (k (.int .u8 48))),Im 5 4,Jm 6 5 true 0,I2 7 5 (.bin .leq (t 6) (k (.int .u8 57))),I1 8 (.pick (t 5) (t 7) KF),Im 2 8])
 .ret))
theorem fn148 : Fn Tryz.prog 148 9 [.inl 2] c148:=⟨⟨_,_,Tryz.func148,rfl,by kernel_rfl,Tryz.ntmps148,by kernel_rfl,Hq0,by kernel_rfl⟩⟩
def c174 : C :=
 (.seq (.reg [I1 2 (.mv KF)])
 (.seq (.reg [Im 3 0,Im 4 0,I1 5 (.bin .neq (t 3) (t 4)),Im 2 5])
 .ret))
theorem fn174 : Fn Tryz.prog 174 6 [.inl 2] c174:=⟨⟨_,_,Tryz.func174,rfl,by kernel_rfl,Tryz.ntmps174,by kernel_rfl,Hq0,by kernel_rfl⟩⟩
def c180 : C :=
 (.seq (.reg [I1 4 (.mv (Ki 0))])
 (.seq (.seq (.reg [Im 6 0,Iz 7 6,I1 8 (.mv (Ki 0))])
 (.block 0
 (.loop
 (.seq (.reg [I1 9 (.bin .lss (t 8) (t 7))])
 (.seq (.cond (t 9)
 .skip
 (.exit 0))
 (.seq (.block 1
 (.seq (.reg [Im 10 8,Im 5 10])
 (.seq (.reg [Im 11 1,Im 12 0,Im 13 5,I1 14 (.iaddr 4 (t 12) (t 13)),Ia 15 4 14,I1 16 (.pcall (t 11) [(t 15)])])
 (.cond (t 16)
 (.seq (.reg [Im 17 5,Im 4 17])
 .ret)
 .skip))))
 (.reg [I1 18 (.bin .add (t 8) (Ki 1)),Im 8 18])))))))
 (.seq (.reg [I1 4 (.mv (k (.int .i64 (-1))))])
 .ret)))
theorem fn180 : Fn Tryz.prog 180 19 [.inl 4] c180:=⟨⟨_,_,Tryz.func180,rfl,by kernel_rfl,Tryz.ntmps180,by kernel_rfl,Hq0,by kernel_rfl⟩⟩
end GP
namespace GP
open Go Go.Proofs
open Rd O
set_option maxRecDepth 100000
def c176 : C :=
 (.seq (.reg [I1 4 (.mv (Ki 0))])
 (.seq (.reg [Im 5 0,Im 6 1,Ip 7 205 [(t 5),(t 6)],Im 4 7])
 .ret))
theorem fn176 : Fn Tryz.prog 176 8 [.inl 4] c176:=⟨⟨_,_,Tryz.func176,rfl,by kernel_rfl,Tryz.ntmps176,by kernel_rfl,Hq0,by kernel_rfl⟩⟩
end GP
namespace GP
open Go Go.Proofs
theorem gPow : Tryz.prog.globalNamed "internal/strconv.uint64pow10" = some 1 := by kernel_rfl
def Vars (c : Cx) (w : World) : Prop := c.bb.1 = false /\ 2 <= c.B /\ Lib.TabIs Tryz.prog w "internal/strconv.uint64pow10" .u64 Lib.pow10Tab
theorem Vars.mono {c c' : Cx} {w w' : World} (hle : c.le c') (hb : Below c.bb w w') (h : Vars c w) : Vars c' w':=by
 obtain ⟨h0,h1,h2⟩:=h
 refine ⟨by rw [hle.B];exact h0,by show 2 <= c'.bb.2;rw [hle.B];exact h1,?_⟩
 ·unfold Lib.TabIs World.var? at h2 ⊢
  rw [gPow] at h2 ⊢
  simp only [Option.bind_some] at h2 ⊢
  rw [hb.block 1 (by have h1' : 2 <= c.bb.2:=h1;omega)];exact h2
instance hasG : HasG Tryz.prog:=⟨Vars,Vars.mono⟩
end GP
namespace GP
open Go
theorem tf (b : Bool) : b = true ∨ b = false:=by cases b <;> simp
theorem flatD_cons (x : D) (xs : List D) : flatD (x :: xs) = x.cells ++ flatD xs:=by simp [flatD]
theorem flatD_append (xs ys : List D) : flatD (xs ++ ys) = flatD xs ++ flatD ys:=by simp [flatD]
def isAg (sz : Nat) (xs : List D) : Prop:=∀ x ∈ xs,∃ l,x = .agg l /\ l.length = sz
theorem isAg.len {sz : Nat} {xs : List D} (h : isAg sz xs) : ∀ x ∈ xs,x.cells.length = sz:=fun x hx=>by
 obtain ⟨l,rfl,hl⟩:=h x hx;exact hl
theorem isAg.fit {sz : Nat} {xs : List D} (h : isAg sz xs) : xs.all (fit sz) = true:=List.all_eq_true.2 fun x hx=>by
 obtain ⟨l,rfl,hl⟩:=h x hx;simp [GP.fit,D.okc,D.cells,hl]
theorem isAg.flat {sz : Nat} {xs : List D} (h : isAg sz xs) : (flatD xs).length = xs.length * sz:=flatD_len h.len
theorem isAg.sub {sz : Nat} {xs ys : List D} (h : isAg sz xs) (k : ∀ y ∈ ys,y ∈ xs) : isAg sz ys:=fun y hy=>h y (k y hy)
theorem isAg.set {sz : Nat} {xs : List D} (h : isAg sz xs) {x : D} (hx : ∃ l,x = .agg l /\ l.length = sz) (i : Nat) : isAg sz (xs.set i x):=fun y hy=>by
 rcases List.mem_or_eq_of_mem_set hy with h' | rfl
 ·exact h y h'
 ·exact hx
theorem chunk_flat {sz : Nat} : ∀ (xs : List D) (rest : List D),isAg sz xs -> chunk true sz xs.length (flatD xs ++ rest) = xs
 | [],_,_=>rfl
 | x :: xs,rest,h=>by
  obtain ⟨l,rfl,hl⟩:=h x (by simp)
  simp only [List.length_cons,chunk,if_true,flatD_cons,D.cells,List.append_assoc]
  rw [List.take_left' hl,List.drop_left' hl,chunk_flat xs rest (h.sub fun y hy=>by simp [hy])]
end GP
namespace GP
open Go Go.Proofs
set_option maxRecDepth 100000
theorem wrapD (a : Int) : IntKind.i64.wrap a = if a % 2 ^ 64 ≥ 2 ^ 63 then a % 2 ^ 64 - 2 ^ 64 else a % 2 ^ 64:=by simp [IntKind.wrap,IntKind.bits,IntKind.signed]
theorem wrap_in {a : Int} (h1 : -(2 ^ 63) <= a) (h2 : a < 2 ^ 63) : IntKind.i64.wrap a = a:=by rw [wrapD];split <;> omega
theorem wrap_su (n : Nat) (h : n < 2 ^ 61) : IntKind.i64.wrap ((n : Int) + 1) = ((n + 1 : Nat) : Int):=by rw [wrap_in (by omega) (by omega)];rfl
theorem ixs_s (l : List UInt8) (k : IntKind) (n : Int) : ixs (.str l) (.int k n) = if 0 <= n then (l[n.toNat]?).map fun b=>.int .u8 b.toNat else none:=rfl
theorem ixs_at {l : List UInt8} {i : Nat} {b : UInt8} (h : l[i]? = some b) (k : IntKind) : ixs (.str l) (.int k (i : Int)) = some (.int .u8 b.toNat):=by
 rw [ixs_s,if_pos (by omega)];simp [h]
def pSmall (n : Int) : Bool:=(decide (97 <= n) && decide (n <= 122)) || n == 95
def pDigit (n : Int) : Bool:=decide (48 <= n) && decide (n <= 57)
def pWord (n : Int) : Bool:=pSmall n || pDigit n
def pText (n : Int) : Bool:=decide (32 <= n) && decide (n <= 126)
def pNote (n : Int) : Bool:=n != 10
def φb (p : Int -> Bool) : List D -> Option D
 | [.int .u8 n]=>some (.bool (p n))
 | _=>none
theorem ok147 : OkAt Tryz.prog 147 (φb pSmall):=by
 refine ok_of (l:=[]) .nil fn147 fun args r h=>?_
 unfold φb at h
 split at h
 ·rename_i n
  injection h with h;subst h
  refine ⟨by simp,by simp [D.cl],fun H T=>?_⟩
  unfold pSmall
  rcases tf (decide (97 <= n)) with h1 | h1
  ·rcases tf (decide (n <= 122)) with h2 | h2
   ·simp +contextual (maxSteps:=10000000) only [c147,h1,h2,go_sem]
   ·simp +contextual (maxSteps:=10000000) only [c147,h1,h2,go_sem]
  ·simp +contextual (maxSteps:=10000000) only [c147,h1,go_sem]
 ·cases h
theorem ok148 : OkAt Tryz.prog 148 (φb pDigit):=by
 refine ok_of (l:=[]) .nil fn148 fun args r h=>?_
 unfold φb at h
 split at h
 ·rename_i n
  injection h with h;subst h
  refine ⟨by simp,by simp [D.cl],fun H T=>?_⟩
  unfold pDigit
  rcases tf (decide (48 <= n)) with h1 | h1 <;> simp +contextual (maxSteps:=10000000) only [c148,h1,go_sem]
 ·cases h
theorem ok200 : OkAt Tryz.prog 200 (φb pText):=by
 refine ok_of (l:=[]) .nil fn200 fun args r h=>?_
 unfold φb at h
 split at h
 ·rename_i n
  injection h with h;subst h
  refine ⟨by simp,by simp [D.cl],fun H T=>?_⟩
  unfold pText
  rcases tf (decide (32 <= n)) with h1 | h1 <;> simp +contextual (maxSteps:=10000000) only [c200,h1,go_sem]
 ·cases h
theorem ok145 : OkAt Tryz.prog 145 (φb pNote):=by
 refine ok_of (l:=[]) .nil fn145 fun args r h=>?_
 unfold φb at h
 split at h
 ·rename_i n
  injection h with h;subst h
  refine ⟨by simp,by simp [D.cl],fun H T=>?_⟩
  unfold pNote
  simp +contextual (maxSteps:=10000000) only [c145,go_sem]
 ·cases h
theorem ok199 : OkAt Tryz.prog 199 (φb pWord):=by
 refine ok_of (l:=[(147,φb pSmall),(148,φb pDigit)]) (.cons ok147 (.cons ok148 .nil)) fn199 fun args r h=>?_
 unfold φb at h
 split at h
 ·rename_i n
  injection h with h;subst h
  refine ⟨by simp,by simp [D.cl],fun H T=>?_⟩
  unfold pWord
  have p1 : φb pSmall [.int .u8 n] = some (.bool (pSmall n)):=rfl
  have p2 : φb pDigit [.int .u8 n] = some (.bool (pDigit n)):=rfl
  rcases tf (pSmall n) with h1 | h1 <;> simp +contextual (maxSteps:=10000000) only [c199,p1,p2,h1,go_sem]
 ·cases h
theorem ok146 : OkAt Tryz.prog 146 (φb pWord):=by
 refine ok_of (l:=[(147,φb pSmall),(148,φb pDigit)]) (.cons ok147 (.cons ok148 .nil)) fn146 fun args r h=>?_
 unfold φb at h
 split at h
 ·rename_i n
  injection h with h;subst h
  refine ⟨by simp,by simp [D.cl],fun H T=>?_⟩
  unfold pWord
  have p1 : φb pSmall [.int .u8 n] = some (.bool (pSmall n)):=rfl
  have p2 : φb pDigit [.int .u8 n] = some (.bool (pDigit n)):=rfl
  rcases tf (pSmall n) with h1 | h1 <;> simp +contextual (maxSteps:=10000000) only [c146,p1,p2,h1,go_sem]
 ·cases h
def runL (p : Int -> Bool) (l : List UInt8) : Nat:=(l.takeWhile fun b=>p (b.toNat : Int)).length
def runN (p : Int -> Bool) (l : List UInt8) (a : Nat) : Nat:=runL p (l.drop a)
theorem runL_eq {p : Int -> Bool} : ∀ {l : List UInt8} {i : Nat},(∀ j b,j < i -> l[j]? = some b -> p b.toNat = true) -> i <= l.length -> (i = l.length ∨ ∃ b,l[i]? = some b /\ p b.toNat = false) -> runL p l = i
 | [],i,_,h,_=>by simp at h;subst h;rfl
 | c :: l,0,_,_,h=>by
  rcases h with h | ⟨b,h1,h2⟩
  ·simp at h
  ·simp at h1;subst h1;simp [runL,h2]
 | c :: l,i + 1,h,hi,he=>by
  have hc:=h 0 c (by omega) rfl
  have:=runL_eq (p:=p) (l:=l) (i:=i) (fun j b hj hb=>h (j + 1) b (by omega) (by simpa using hb)) (by simpa using hi) (by simpa using he)
  simp only [runL,List.takeWhile_cons,hc,if_true,List.length_cons] at this ⊢
  omega
theorem runN_eq {p : Int -> Bool} {l : List UInt8} {a i : Nat} (h : ∀ j b,j < i -> l[a + j]? = some b -> p b.toNat = true) (hi : a + i <= l.length) (he : a + i = l.length ∨ ∃ b,l[a + i]? = some b /\ p b.toNat = false) : runN p l a = i :=
 runL_eq (fun j b hj hb=>h j b hj (by simpa using hb)) (by simp;omega) (he.imp (fun h=>by simp;omega) (fun ⟨b,h1,h2⟩=>⟨b,by simpa using h1,h2⟩))
def sorts (f : Nat) : Option (Int -> Bool):=if f = 199 then some pWord else if f = 148 then some pDigit else if f = 200 then some pText else if f = 145 then some pNote else if f = 146 then some pWord else none
def lst : Fs:=[(199,φb pWord),(148,φb pDigit),(200,φb pText),(145,φb pNote),(146,φb pWord)]
theorem lst_ok : Ok Tryz.prog lst:=.cons ok199 (.cons ok148 (.cons ok200 (.cons ok145 (.cons ok146 .nil))))
theorem lst_look {f : Nat} {p : Int -> Bool} (h : sorts f = some p) (n : Int) : look lst f [.int .u8 n] = some (.bool (p n)):=by
 unfold sorts at h
 split at h
 ·rename_i e;subst e;injection h with h;subst h;rfl
 split at h
 ·rename_i e;subst e;injection h with h;subst h;rfl
 split at h
 ·rename_i e;subst e;injection h with h;subst h;rfl
 split at h
 ·rename_i e;subst e;injection h with h;subst h;rfl
 split at h
 ·rename_i e;subst e;injection h with h;subst h;rfl
 ·cases h
def φrun : List D -> Option D
 | [.str l,.int .i64 a,.fn f [] []]=>match sorts f with
  | some p=>if 0 <= a /\ a <= l.length /\ l.length <= 2 ^ 60 then some (.int .i64 (runN p l a.toNat)) else none
  | none=>none
 | _=>none
set_option maxHeartbeats 2000000 in
theorem ok144 : OkAt Tryz.prog 144 φrun:=by
 refine ok_of lst_ok fn144 fun args r h=>?_
 unfold φrun at h
 split at h
 ·rename_i l a f
  split at h
  ·rename_i p hp
   split at h
   ·rename_i hc
    obtain ⟨ha0,ha,hl⟩:=hc
    injection h with h;subst h
    obtain ⟨a,rfl⟩ : ∃ k : Nat,a = (k : Int):=⟨a.toNat,by omega⟩
    have ha : a <= l.length:=by omega
    refine ⟨by simp,by simp [D.cl],fun H T=>?_⟩
    rw [show ((a : Int)).toNat = a from by omega]
    have pl:=fun n=>lst_look hp n
    simp +contextual (maxSteps:=10000000) only [c144,go_sem]
    refine W_for (fun i s'=>s'.t 0 = .str l /\ s'.t 1 = .int .i64 a /\ s'.t 2 = .fn f [] [] /\ s'.t 7 = .int .i64 ((a + i : Nat) : Int) /\ s'.H = H /\ s'.T = T /\ a + i <= l.length /\ ∀ j b,j < i -> l[a + j]? = some b -> p b.toNat = true) l.length ⟨0,by simp [upd,argT,ha]⟩ (fun i s h=>by have:=h.2.2.2.2.2.2.1;omega) ?_ (XL_mono _)
    rintro i ⟨t,B,T'⟩ ⟨r0,r1,r2,r7,rfl,rfl,hi,hc⟩
    simp only at r0 r1 r2 r7
    have fin : ∀ {k : Nat},k = i -> (a + k = l.length ∨ ∃ b,l[a + k]? = some b /\ p b.toNat = false) -> runN p l a = k:=fun e h=>by subst e;exact runN_eq hc hi h
    have wS : IntKind.i64.wrap (((a + i : Nat) : Int) - (a : Int)) = (i : Int):=by rw [wrap_in (by omega) (by omega)];omega
    by_cases hlt : a + i < l.length
    ·have d1 : decide (((a + i : Nat) : Int) < l.length) = true:=by simp only [decide_eq_true_eq];omega
     have ex : l[a + i]? = some l[a + i]:=by simp [hlt]
     obtain ⟨b,hb⟩ : ∃ b,l[a + i] = b:=⟨_,rfl⟩
     rw [hb] at ex
     have q:=pl (b.toNat : Int)
     have ix:=fun k=>ixs_at ex k
     rcases tf (p (b.toNat : Int)) with g | g
     ·have hnx : ∀ j b,j < i + 1 -> l[a + j]? = some b -> p b.toNat = true:=fun j c hj hc'=>by
       rcases Nat.lt_or_ge j i with h' | h'
       ·exact hc j c h' hc'
       ·have : j = i:=by omega
        subst this;rw [ex] at hc';injection hc' with hc';subst hc';exact g
      simp +contextual (maxSteps:=10000000) only [r0,r1,r2,r7,d1,ix,q,g,wrap_su (a + i) (by omega),go_sem]
      exact ⟨by rw [Nat.add_assoc],by omega,hnx⟩
     ·have hr:=fin rfl (.inr ⟨b,ex,g⟩)
      rw [hr]
      simp +contextual (maxSteps:=10000000) only [r0,r1,r2,r7,d1,ix,q,g,wS,go_sem]
    ·have d1 : decide (((a + i : Nat) : Int) < l.length) = false:=by simp only [decide_eq_false_iff_not];omega
     have hr:=fin rfl (.inl (by omega))
     rw [hr]
     simp +contextual (maxSteps:=10000000) only [r0,r1,r2,r7,d1,wS,go_sem]
   ·cases h
  ·cases h
 ·cases h
end GP
namespace GP
open Go Go.Proofs
set_option maxRecDepth 100000
def signsB : List (List UInt8):=[[61,61],[33,61],[60,61],[62,61],[123],[125],[40],[41],[91],[93],[59],[46],[44],[43],[45],[42],[60],[62]]
def φsigns : List D -> Option D
 | []=>some (.sl none (signsB.map .str))
 | _=>none
theorem ok151 : OkAt Tryz.prog 151 φsigns:=by
 refine ok_of (l:=[]) .nil fn151 fun args r h=>?_
 unfold φsigns at h
 split at h
 ·injection h with h;subst h
  refine ⟨by simp,by decide,fun H T=>?_⟩
  simp +contextual (maxSteps:=10000000) only [c151,go_sem]
  rfl
 ·cases h
end GP
namespace Go.Proofs
open Go.Shelf
shelf_lay LaysC.n174 Nm 174 at Tryz as Tryz.laysPI
shelf_lay LaysM.n173 Nm 173 at Tryz as Tryz.laysFI
end Go.Proofs
namespace GP
open Go Go.Proofs
set_option maxRecDepth 100000
def mkT (k : Int) (s : List UInt8) (n : Int) : D:=.agg [.int .i64 k,.str s,.int .i64 n]
end GP
namespace GP
open Go Go.Proofs
set_option maxRecDepth 100000
def pLet (n : Int) : Bool:=decide (97 <= n) && decide (n <= 122)
theorem pWord_let (n : Int) : pWord n = (pLet n || n == 95 || pDigit n):=rfl
theorem ok162 : OkAt Tryz.prog 162 (φb pLet):=by
 refine ok_of (l:=[]) .nil fn162 fun args r h=>?_
 unfold φb at h
 split at h
 ·rename_i n
  injection h with h;subst h
  refine ⟨by simp,by simp [D.cl],fun H T=>?_⟩
  unfold pLet
  rcases tf (decide (97 <= n)) with h1 | h1 <;> simp +contextual (maxSteps:=10000000) only [c162,h1,go_sem]
 ·cases h
theorem ok163 : OkAt Tryz.prog 163 (φb pDigit):=by
 refine ok_of (l:=[]) .nil fn163 fun args r h=>?_
 unfold φb at h
 split at h
 ·rename_i n
  injection h with h;subst h
  refine ⟨by simp,by simp [D.cl],fun H T=>?_⟩
  unfold pDigit
  rcases tf (decide (48 <= n)) with h1 | h1 <;> simp +contextual (maxSteps:=10000000) only [c163,h1,go_sem]
 ·cases h
def signsR : List (List UInt8):=[[123],[125],[40],[41],[91],[93],[59],[46],[44],[43],[45],[42],[60],[62],[61,61],[33,61],[60,61],[62,61]]
def φsignsR : List D -> Option D
 | []=>some (.sl none (signsR.map .str))
 | _=>none
theorem ok173 : OkAt Tryz.prog 173 φsignsR:=by
 refine ok_of (l:=[]) .nil fn173 fun args r h=>?_
 unfold φsignsR at h
 split at h
 ·injection h with h;subst h
  refine ⟨by simp,by decide,fun H T=>?_⟩
  simp +contextual (maxSteps:=10000000) only [c173,go_sem]
  rfl
 ·cases h
def isSign (s : List UInt8) : Bool:=signsR.any (fun x=>x == s)
def φsign : List D -> Option D
 | [.str s]=>some (.bool (isSign s))
 | _=>none
theorem any_take_no {α : Type} {p : α -> Bool} {xs : List α} {i : Nat} {x : α} (hx : xs[i]? = some x) (h : (xs.take i).any p = false) (hp : p x = false) : (xs.take (i + 1)).any p = false:=by
 rw [List.take_add_one,hx];simp [h,hp]
theorem any_hit {α : Type} {p : α -> Bool} {xs : List α} {i : Nat} {x : α} (hx : xs[i]? = some x) (hp : p x = true) : xs.any p = true:=List.any_eq_true.2 ⟨x,List.mem_of_getElem? hx,hp⟩
theorem ok110 : OkAt Tryz.prog 110 φsign:=by
 refine ok_of (l:=[(173,φsignsR)]) (.cons ok173 .nil) fn110 fun args r h=>?_
 unfold φsign at h
 split at h
 ·rename_i s
  injection h with h;subst h
  refine ⟨by simp,by simp [D.cl],fun H T=>?_⟩
  have ps : φsignsR [] = some (.sl none (signsR.map .str)):=rfl
  have eS : D.eraseL (signsR.map D.str) = signsR.map D.str:=rfl
  have lS : (signsR.map D.str).length = 18:=rfl
  have get : ∀ j,j < 18 -> ∃ x,(signsR.map D.str)[j]? = some (.str x) /\ signsR[j]? = some x:=fun j h=>by
   have hl : j < signsR.length:=h
   exact ⟨signsR[j],by simp [hl],by simp [hl]⟩
  obtain ⟨SB,hSB⟩ : ∃ z,signsR.map D.str = z:=⟨_,rfl⟩
  rw [hSB] at ps eS lS get
  simp +contextual (maxSteps:=10000000) only [c110,ps,eS,go_sem]
  refine W_for (fun j s'=>s'.t 0 = .str s /\ s'.t 3 = .sl none SB /\ s'.t 4 = .int .i64 (j : Nat) /\ s'.H = H /\ s'.T = T /\ j <= 18 /\ (signsR.take j).any (fun x=>x == s) = false) 18 ⟨0,by simp [upd,argT]⟩ (fun i s h=>h.2.2.2.2.2.1) ?_ (XL_mono _)
  rintro j ⟨t,B,T'⟩ ⟨r0,r3,r4,rfl,rfl,hj,hc⟩
  simp only at r0 r3 r4
  by_cases hlt : j < 18
  ·have d1 : decide (((j : Nat) : Int) < SB.length) = true:=by rw [lS];simp only [decide_eq_true_eq];omega
   obtain ⟨x,f1,f2⟩:=get j hlt
   rcases tf (x == s) with q | q
   ·have hT : isSign s = true:=any_hit (p:=fun x=>x == s) f2 q
    rw [hT]
    simp +contextual (maxSteps:=10000000) only [r0,r3,r4,d1,f1,q,go_sem]
   ·have nx:=any_take_no (p:=fun x=>x == s) f2 hc q
    simp +contextual (maxSteps:=10000000) only [r0,r3,r4,d1,f1,q,wrap_su j (by omega),go_sem]
    exact ⟨by omega,nx⟩
  ·have d1 : decide (((j : Nat) : Int) < SB.length) = false:=by rw [lS];simp only [decide_eq_false_iff_not];omega
   have hT : isSign s = false:=by
    have : j = signsR.length:=by show j = 18;omega
    subst this;rw [List.take_length] at hc
    exact hc
   rw [hT]
   simp +contextual (maxSteps:=10000000) only [r0,r3,r4,d1,go_sem]
 ·cases h
def wordB (s : List UInt8) : Bool:=match s with
 | []=>false
 | c :: r=>pLet c.toNat && r.all (fun b=>pWord b.toNat) && decide ((s.length : Int) <= 64)
def okAtW (j : Nat) (b : UInt8) : Bool:=if j = 0 then pLet b.toNat else pWord b.toNat
theorem wordB_no {s : List UInt8} {j : Nat} {b : UInt8} (h : s[j]? = some b) (hb : okAtW j b = false) : wordB s = false:=by
 cases s with
 | nil=>rfl
 | cons c r =>
  cases j with
  | zero =>
   simp at h;subst h
   have hb : pLet (c.toNat : Int) = false:=hb
   simp [wordB,hb]
  | succ j =>
   have h : r[j]? = some b:=by simpa using h
   have hb : pWord (b.toNat : Int) = false:=hb
   have : r.all (fun b=>pWord b.toNat) = false:=List.all_eq_false.2 ⟨b,List.mem_of_getElem? h,by simp [hb]⟩
   simp [wordB,this]
theorem wordB_end {s : List UInt8} (h : ∀ j b,s[j]? = some b -> okAtW j b = true) : wordB s = (decide ((0 : Int) < s.length) && decide ((s.length : Int) <= 64)):=by
 cases s with
 | nil=>rfl
 | cons c r =>
  have h0 : pLet (c.toNat : Int) = true:=h 0 c rfl
  have h1 : r.all (fun b=>pWord b.toNat) = true:=List.all_eq_true.2 fun b hb=>by
   obtain ⟨j,hj⟩:=List.getElem?_of_mem hb
   exact h (j + 1) b (by simpa using hj)
  have : decide ((0 : Int) < ((c :: r).length : Nat)) = true:=by simp
  rw [this];simp only [wordB,h0,h1,Bool.true_and]
def φword : List D -> Option D
 | [.str s]=>if s.length <= 2 ^ 60 then some (.bool (wordB s)) else none
 | _=>none
set_option maxHeartbeats 4000000 in
theorem ok109 : OkAt Tryz.prog 109 φword:=by
 refine ok_of (l:=[(162,φb pLet),(163,φb pDigit)]) (.cons ok162 (.cons ok163 .nil)) fn109 fun args r h=>?_
 unfold φword at h
 split at h
 ·rename_i s
  split at h
  ·rename_i hl
   injection h with h;subst h
   refine ⟨by simp,by simp [D.cl],fun H T=>?_⟩
   simp +contextual (maxSteps:=10000000) only [c109,go_sem]
   refine W_for (fun i s'=>s'.t 0 = .str s /\ s'.t 3 = .int .i64 (i : Nat) /\ s'.H = H /\ s'.T = T /\ i <= s.length /\ ∀ j b,j < i -> s[j]? = some b -> okAtW j b = true) s.length ⟨0,by simp [upd,argT]⟩ (fun i s h=>h.2.2.2.2.1) ?_ (XL_mono _)
   rintro i ⟨t,B,T'⟩ ⟨r0,r3,rfl,rfl,hi,hc⟩
   simp only at r0 r3
   by_cases hlt : i < s.length
   ·have d1 : decide (((i : Nat) : Int) < s.length) = true:=by simp only [decide_eq_true_eq];omega
    have ex : s[i]? = some s[i]:=by simp [hlt]
    obtain ⟨b,hb⟩ : ∃ b,s[i] = b:=⟨_,rfl⟩
    rw [hb] at ex
    have ix:=fun q=>ixs_at ex q
    have no:=fun hp=>wordB_no ex hp
    have nx : okAtW i b = true -> ∀ j b,j < i + 1 -> s[j]? = some b -> okAtW j b = true:=fun hp j c hj hc'=>by
     rcases Nat.lt_or_ge j i with h' | h'
     ·exact hc j c h' hc'
     ·have : j = i:=by omega
      subst this;rw [ex] at hc';injection hc' with hc';subst hc';exact hp
    have q1 : φb pLet [.int .u8 (b.toNat : Int)] = some (.bool (pLet b.toNat)):=rfl
    have q2 : φb pDigit [.int .u8 (b.toNat : Int)] = some (.bool (pDigit b.toNat)):=rfl
    rcases tf (pLet (b.toNat : Int)) with g1 | g1
    ·have nx:=nx (by unfold okAtW;split <;> simp [g1,pWord_let])
     simp +contextual (maxSteps:=10000000) only [r0,r3,d1,ix,q1,g1,wrap_su i (by omega),go_sem]
     exact ⟨by omega,nx⟩
    by_cases h0 : i = 0
    ·have e0 : (((i : Nat) : Int) == 0) = true:=by rw [beq_iff_eq];omega
     have no:=no (by unfold okAtW;rw [if_pos h0];exact g1)
     rw [no]
     simp +contextual (maxSteps:=10000000) only [r0,r3,d1,ix,q1,g1,e0,go_sem]
    have e0 : (((i : Nat) : Int) == 0) = false:=by rw [beq_eq_false_iff_ne];omega
    rcases tf (pDigit (b.toNat : Int)) with g2 | g2
    ·have nx:=nx (by unfold okAtW;rw [if_neg h0,pWord_let,g2];simp)
     simp +contextual (maxSteps:=10000000) only [r0,r3,d1,ix,q1,q2,g1,g2,e0,wrap_su i (by omega),go_sem]
     exact ⟨by omega,nx⟩
    rcases tf ((b.toNat : Int) == 95) with g3 | g3
    ·have nx:=nx (by unfold okAtW;rw [if_neg h0,pWord_let,g3];simp)
     have g3' : ((b.toNat : Int) != 95) = false:=by simp only [bne,g3];rfl
     simp +contextual (maxSteps:=10000000) only [r0,r3,d1,ix,q1,q2,g1,g2,g3',e0,wrap_su i (by omega),go_sem]
     exact ⟨by omega,nx⟩
    ·have no:=no (by unfold okAtW;rw [if_neg h0,pWord_let,g1,g2,g3];rfl)
     have g3' : ((b.toNat : Int) != 95) = true:=by simp only [bne,g3];rfl
     rw [no]
     simp +contextual (maxSteps:=10000000) only [r0,r3,d1,ix,q1,q2,g1,g2,g3',e0,go_sem]
   ·have d1 : decide (((i : Nat) : Int) < s.length) = false:=by simp only [decide_eq_false_iff_not];omega
    have hE:=wordB_end (s:=s) fun j b hj=>hc j b (by
     rcases Nat.lt_or_ge j s.length with h' | h'
     ·omega
     ·rw [List.getElem?_eq_none h'] at hj;cases hj) hj
    rw [hE]
    rcases tf (decide ((0 : Int) < s.length)) with g | g <;> simp +contextual (maxSteps:=10000000) only [r0,r3,d1,g,go_sem]
  ·cases h
 ·cases h
def tupR (p : Int × Bool) : D:=.tup [.int .i64 p.1,.bool p.2]
end GP
namespace GP
open Go Go.Proofs
set_option maxRecDepth 100000
theorem runL_cons {p : Int -> Bool} (c : UInt8) (r : List UInt8) (h : p c.toNat = true) : runL p (c :: r) = 1 + runL p r:=by
 unfold runL;simp only [List.takeWhile_cons,h,if_true,List.length_cons];omega
end GP
namespace GP
open Go Go.Proofs
set_option maxRecDepth 100000
def signs2 : List (List UInt8):=[[61,61],[33,61],[60,61],[62,61]]
def signs1 : List (List UInt8):=[[123],[125],[40],[41],[91],[93],[59],[46],[44],[43],[45],[42],[60],[62]]
theorem signsB_12 : signsB = signs2 ++ signs1:=rfl
theorem isSign_12 (s : List UInt8) : isSign s = (signs1.contains s || signs2.contains s):=by
 have e : signsR = signs1 ++ signs2:=rfl
 unfold isSign
 rw [e,List.any_append]
 congr 1 <;> (rw [List.contains_eq_any_beq];congr 1;funext x;exact BEq.comm)
end GP
namespace GP
open Go Go.Proofs
set_option maxRecDepth 100000
theorem wordB_cons (c : UInt8) (r : List UInt8) : wordB (c :: r) = (pLet c.toNat && r.all (fun b=>pWord b.toNat) && decide (((c :: r).length : Int) <= 64)):=rfl
end GP
namespace GP
open Go Go.Proofs
set_option maxRecDepth 100000
def zeroV : D:=.agg [.int .i64 0,.int .i64 0,.str [],.nils]
def num (n : Int) : D:=.agg [.int .i64 2,.int .i64 n,.str [],.nils]
def plainB (k i : Int) (s : List UInt8) (n : Nat) : Bool :=
 if decide ((0 : Int) < n) then false else if (k != 3) && (s != []) then false else
 if k == 0 then i == 0 else if k == 1 then i == 0 || i == 1 else if k == 2 then true else
 if k == 3 then i == 0 && decide ((s.length : Int) <= 64) else if k == 4 then decide (0 <= i) && decide (i <= 1099511627776) else false
def φplain : List D -> Option D
 | [.agg [.int .i64 k,.int .i64 i,.str s,l]]=>match lenD l with
  | some n=>some (.bool (plainB k i s n))
  | none=>none
 | _=>none
theorem lenD_okc {l : D} {n : Nat} (h : lenD l = some n) : l.okc = true /\ l.cells = [l]:=by
 cases l <;> simp [lenD] at h <;> exact ⟨rfl,rfl⟩
theorem ok179 [HasG Tryz.prog] : OkAt Tryz.prog 179 φplain:=by
 refine ok_of (l:=[]) Ok.nil fn179 fun args r h=>?_
 unfold φplain at h
 split at h
 ·split at h
  ·rename_i k i s l n hn
   injection h with h;subst h
   refine ⟨by simp,by simp [D.cl,D.clL,num],fun H T=>?_⟩
   have hl:=lenD_okc hn
   simp +contextual (maxSteps:=10000000) only [c179,plainB,hn,hl.1,hl.2,go_sem]
  ·cases h
 ·cases h
theorem wrap_of (a : Int) (h : -(2 ^ 63) <= a) (h' : a < 2 ^ 63) : IntKind.i64.wrap a = a:=by
 have e : IntKind.i64.wrap a = if a % (2 ^ 64 : Int) ≥ (2 ^ 63 : Int) then a % (2 ^ 64 : Int) - (2 ^ 64 : Int) else a % (2 ^ 64 : Int):=by
  simp [IntKind.wrap,IntKind.bits,IntKind.signed]
 rw [e]
 split <;> omega
theorem wrap_nat (n : Nat) (h : n < 2 ^ 62) : IntKind.i64.wrap (n : Int) = n:=wrap_of _ (by omega) (by omega)
theorem wrap_succ (n : Nat) (h : n < 2 ^ 61) : IntKind.i64.wrap ((n : Int) + 1) = ((n + 1 : Nat) : Int):=by
 have:=wrap_nat (n + 1) (by omega)
 rw [<- this];simp
@[go_sem] theorem ixs_nat (s : List UInt8) (k : IntKind) (i : Nat) : ixs (.str s) (.int k (i : Int)) = (s[i]?).map fun b=>.int .u8 (b.toNat : Int):=by
 simp [ixs]
def cmpI (a b : Int) : Int:=if a < b then -1 else if b < a then 1 else 0
def cmpS : List UInt8 -> List UInt8 -> Int
 | [],[]=>0
 | [],_ :: _=>-1
 | _ :: _,[]=>1
 | x :: a,y :: b=>if x.toNat < y.toNat then -1 else if y.toNat < x.toNat then 1 else cmpS a b
def φnumbers : List D -> Option D
 | [.int .i64 a,.int .i64 b]=>some (.int .i64 (cmpI a b))
 | _=>none
theorem ok203 [HasG Tryz.prog] : OkAt Tryz.prog 203 φnumbers:=by
 refine ok_of (l:=[]) Ok.nil fn203 fun args r h=>?_
 unfold φnumbers at h
 split at h
 ·injection h with h;subst h
  refine ⟨by simp,by simp [D.cl],fun H T=>?_⟩
  simp +contextual (maxSteps:=10000000) only [c203,cmpI,go_sem]
  simp
  omega
 ·cases h
def φTexts : List D -> Option D
 | [.str a,.str b]=>if a.length <= 2 ^ 47 /\ b.length <= 2 ^ 47 then some (.int .i64 (cmpS a b)) else none
 | _=>none
theorem ok204 [HasG Tryz.prog] : OkAt Tryz.prog 204 φTexts:=by
 refine ok_of (l:=[]) Ok.nil fn204 fun args r h=>?_
 unfold φTexts at h
 split at h
 ·split at h
  ·rename_i a b hl
   injection h with h;subst h
   refine ⟨by simp,by simp [D.cl],fun H T=>?_⟩
   simp +contextual (maxSteps:=10000000) only [c204,go_sem]
   refine W_for (fun i s=>s.t 0 = .str a /\ s.t 1 = .str b /\ s.t 5 = .int .i64 i /\ s.H = H /\ s.T = T /\ i <= a.length /\ i <= b.length /\ cmpS (a.drop i) (b.drop i) = cmpS a b) a.length ⟨0,by simp [upd,argT]⟩ (fun i s h=>h.2.2.2.2.2.1) ?_ (XL_mono _)
   rintro i ⟨t,H',T'⟩ ⟨h0,h1,h5,rfl,rfl,hi,hj,hc⟩
   simp only at h0 h1 h5
   by_cases ha : i < a.length
   ·by_cases hb : i < b.length
    ·have d1 : decide ((i : Int) < a.length) = true:=by simpa using ha
     have d2 : decide ((i : Int) < b.length) = true:=by simpa using hb
     have e1 : a[i]? = some a[i]:=by simp [ha]
     have e2 : b[i]? = some b[i]:=by simp [hb]
     rw [List.drop_eq_getElem_cons ha,List.drop_eq_getElem_cons hb,cmpS] at hc
     simp +contextual (maxSteps:=10000000) only [h0,h1,h5,d1,d2,e1,e2,wrap_succ i (by omega),go_sem]
     refine ⟨fun h=>?_,fun h=>⟨fun h'=>?_,fun h'=>⟨by omega,by omega,?_⟩⟩⟩ <;> simp only [decide_eq_true_eq,decide_eq_false_iff_not] at h <;> (try simp only [decide_eq_true_eq,decide_eq_false_iff_not] at h')
     ·rw [if_pos (by omega)] at hc;rw [hc]
     ·rw [if_neg (by omega),if_pos (by omega)] at hc;rw [hc]
     ·rw [if_neg (by omega),if_neg (by omega)] at hc;exact hc
    ·have d1 : decide ((i : Int) < a.length) = true:=by simpa using ha
     have d2 : decide ((i : Int) < b.length) = false:=by simpa using hb
     have d3 : decide ((a.length : Int) < b.length) = false:=by simp;omega
     have d4 : decide ((b.length : Int) < a.length) = true:=by simp;omega
     rw [List.drop_eq_getElem_cons ha,List.drop_eq_nil_of_le (by omega : b.length <= i),cmpS] at hc
     simp +contextual (maxSteps:=10000000) only [h0,h1,h5,d1,d2,d3,d4,← hc,go_sem]
   ·have d1 : decide ((i : Int) < a.length) = false:=by simpa using ha
    have d3 : decide ((b.length : Int) < a.length) = false:=by simp;omega
    rw [List.drop_eq_nil_of_le (by omega : a.length <= i)] at hc
    by_cases hb : i < b.length
    ·have d4 : decide ((a.length : Int) < b.length) = true:=by simp;omega
     rw [List.drop_eq_getElem_cons hb,cmpS] at hc
     simp +contextual (maxSteps:=10000000) only [h0,h1,h5,d1,d3,d4,← hc,go_sem]
    ·have d4 : decide ((a.length : Int) < b.length) = false:=by simp;omega
     rw [List.drop_eq_nil_of_le (by omega : b.length <= i),cmpS] at hc
     simp +contextual (maxSteps:=10000000) only [h0,h1,h5,d1,d3,d4,← hc,go_sem]
  ·cases h
 ·cases h
theorem body205 : Tryz.f205.body.isNone = true:=by kernel_rfl
theorem name205 : (Tryz.f205.name == "runtime.NumGoroutine") = false := by kernel_rfl
theorem next205 : Extern.findNext Tryz.f205 = none:=by kernel_rfl
theorem find205 : Extern.find Tryz.f205 = some Extern.BytealgCompare.compare:=by rfl
theorem cmpS_eq : ∀ (a b : List UInt8),Lib.compareBytes a b = cmpS a b
 | [],[]=>rfl
 | [],_ :: _=>rfl
 | _ :: _,[]=>rfl
 | x :: a,y :: b=>by
  simp only [Lib.compareBytes,cmpS,UInt8.lt_iff_toNat_lt,cmpS_eq a b]
def φcmp : List D -> Option D
 | [.str a,.str b]=>some (.int .i64 (cmpS a b))
 | _=>none
theorem ok205 [HasG Tryz.prog] : OkAt Tryz.prog 205 φcmp:=by
 intro args r hr args' he H T Q hQ
 unfold φcmp at hr
 split at hr
 ·rename_i a b
  injection hr with hr;subst hr
  intro c w vs _ hi hT hrep
  have h:=hrep.erase
  rw [he] at h
  match vs,h.len with
  | [v1,v2],_ =>
   have h1 : Rep c (.str a) v1:=h.rep 0 (by simp) (by simp)
   have h2 : Rep c (.str b) v2:=h.rep 1 (by simp) (by simp)
   cases h1;cases h2
   refine .inr ⟨.int .i64 (cmpS a b),w,?_,?_⟩
   ·rw [run_callFunc_extern Tryz.func205 name205 body205 next205 find205]
    have:=Lib.run_compareString (P:=Tryz.prog) ⟨a.toArray⟩ ⟨b.toArray⟩ w
    rw [cmpS_eq] at this
    simp only at this
    rw [this];rfl
   ·exact ⟨_,rfl,_,H,T,c,hQ,.int _ _,hi,Cx.le.refl c,hT,Below.refl _ _⟩
 ·cases hr
theorem ok176 [HasG Tryz.prog] : OkAt Tryz.prog 176 φcmp:=by
 refine ok_of (l:=[(205,φcmp)]) (.cons ok205 .nil) fn176 fun args r h=>?_
 unfold φcmp at h
 split at h
 ·injection h with h;subst h
  refine ⟨by simp,by simp [D.cl],fun H T=>?_⟩
  simp +contextual (maxSteps:=10000000) only [c176,φcmp,go_sem]
 ·cases h
theorem ok115 [HasG Tryz.prog] : OkAt Tryz.prog 115 φcmp:=by
 refine ok_of (l:=[(176,φcmp)]) (.cons ok176 .nil) fn115 fun args r h=>?_
 unfold φcmp at h
 split at h
 ·injection h with h;subst h
  refine ⟨by simp,by simp [D.cl],fun H T=>?_⟩
  simp +contextual (maxSteps:=10000000) only [c115,φcmp,go_sem]
 ·cases h
def φnan : List D -> Option D
 | [.int .i64 _]=>some (.bool false)
 | _=>none
theorem ok174 [HasG Tryz.prog] : OkAt Tryz.prog 174 φnan:=by
 refine ok_of (l:=[]) .nil fn174 fun args r h=>?_
 unfold φnan at h
 split at h
 ·injection h with h;subst h
  refine ⟨by simp,by simp [D.cl],fun H T=>?_⟩
  simp +contextual (maxSteps:=10000000) only [c174,go_sem]
 ·cases h
theorem ok175 [HasG Tryz.prog] : OkAt Tryz.prog 175 φnan:=by
 refine ok_of (l:=[]) .nil fn175 fun args r h=>?_
 unfold φnan at h
 split at h
 ·injection h with h;subst h
  refine ⟨by simp,by simp [D.cl],fun H T=>?_⟩
  simp +contextual (maxSteps:=10000000) only [c175,go_sem]
 ·cases h
theorem ok113 [HasG Tryz.prog] : OkAt Tryz.prog 113 φnumbers:=by
 refine ok_of (l:=[(174,φnan)]) (.cons ok174 .nil) fn113 fun args r h=>?_
 unfold φnumbers at h
 split at h
 ·injection h with h;subst h
  refine ⟨by simp,by simp [D.cl],fun H T=>?_⟩
  simp +contextual (maxSteps:=10000000) only [c113,φnan,cmpI,go_sem]
  simp
  omega
 ·cases h
theorem ok114 [HasG Tryz.prog] : OkAt Tryz.prog 114 φnumbers:=by
 refine ok_of (l:=[(175,φnan)]) (.cons ok175 .nil) fn114 fun args r h=>?_
 unfold φnumbers at h
 split at h
 ·injection h with h;subst h
  refine ⟨by simp,by simp [D.cl],fun H T=>?_⟩
  simp +contextual (maxSteps:=10000000) only [c114,φnan,cmpI,go_sem]
  simp
  omega
 ·cases h
def φone : List D -> Option D
 | [.agg [.int .i64 k,.int .i64 i,.str s,l]]=>match lenD l with
  | some n=>some (.bool (plainB k i s n))
  | none=>none
 | _=>none
theorem ok171 [HasG Tryz.prog] : OkAt Tryz.prog 171 φone:=by
 refine ok_of (l:=[]) Ok.nil fn171 fun args r h=>?_
 unfold φone at h
 split at h
 ·split at h
  ·rename_i k i s l n hn
   injection h with h;subst h
   refine ⟨by simp,by simp [D.cl,D.clL,num],fun H T=>?_⟩
   have hl:=lenD_okc hn
   simp +contextual (maxSteps:=10000000) only [c171,hn,hl.1,hl.2,go_sem]
   repeat' (first | apply And.intro | intro _)
   all_goals grind [plainB]
  ·cases h
 ·cases h
def singleI (k i : Int) (s : List UInt8) (k' i' : Int) (s' : List UInt8) : Int :=
 if k != k' then cmpI k k' else if k == 3 then cmpS s s' else cmpI i i'
def φsingle : List D -> Option D
 | [.agg [.int .i64 k,.int .i64 i,.str s,l],.agg [.int .i64 k',.int .i64 i',.str s',l']]=>if s.length <= 2 ^ 47 /\ s'.length <= 2 ^ 47 /\ (lenD l).isSome /\ (lenD l').isSome then some (.int .i64 (singleI k i s k' i' s')) else none
 | _=>none
theorem ok172 [HasG Tryz.prog] : OkAt Tryz.prog 172 φsingle:=by
 refine ok_of (l:=[(203,φnumbers),(204,φTexts)]) (.cons ok203 (.cons ok204 .nil)) fn172 fun args r h=>?_
 unfold φsingle at h
 split at h
 ·split at h
  ·rename_i hl
   injection h with h;subst h
   refine ⟨by simp,by simp [D.cl,D.clL,num],fun H T=>?_⟩
   obtain ⟨h1,h2,h3,h4⟩:=hl
   obtain ⟨n,hn⟩:=Option.isSome_iff_exists.1 h3
   obtain ⟨n',hn'⟩:=Option.isSome_iff_exists.1 h4
   have hl:=lenD_okc hn
   have hl':=lenD_okc hn'
   simp +contextual (maxSteps:=10000000) only [c172,φnumbers,φTexts,singleI,hn,hl.1,hl.2,hn',hl'.1,hl'.2,h1,h2,go_sem]
  ·cases h
 ·cases h
@[go_sem high] theorem ia_nat (sz : Nat) (b : Bool) (xs : List D) (k : IntKind) (i : Nat) : ia sz (sliceD b xs) (.int k (i : Int)) = iaE sz xs[i]?:=by
 rw [ia_sliceD];simp
@[go_sem high] theorem ia_nat' (sz : Nat) (t : Option Nat) (xs : List D) (k : IntKind) (i : Nat) : ia sz (.sl t xs) (.int k (i : Int)) = iaE sz xs[i]?:=by
 rw [ia_sl];simp
theorem isSl_elim {l : D} (h : isSl l = true) : ∃ b,l = sliceD b (elems l):=by
 unfold isSl at h
 split at h
 ·exact ⟨true,rfl⟩
 ·exact ⟨false,rfl⟩
 ·cases h
@[go_sem] theorem isSl_sliceD (b : Bool) (xs : List D) : isSl (sliceD b xs) = true:=by
 rcases sliceD_cases b xs with ⟨h,_⟩ | h <;> rw [h] <;> rfl
theorem all_take_succ {p : D -> Bool} {xs : List D} {i : Nat} {e : D} (h : xs[i]? = some e) : (xs.take (i + 1)).all p = ((xs.take i).all p && p e):=by
 rw [List.take_add_one,h];simp
theorem all_false_of {p : D -> Bool} {xs : List D} {i m : Nat} {e : D} (h : xs[i]? = some e) (hp : p e = false) (him : i < m) : (xs.take m).all p = false:=by
 cases hq : (xs.take m).all p with
 | false=>rfl
 | true =>
  have hm : e ∈ xs.take m:=by
   refine List.mem_of_getElem? (i:=i) ?_
   rw [List.getElem?_take_of_lt him];exact h
  rw [List.all_eq_true.1 hq e hm] at hp;cases hp
def leafFew (e : D) : Bool:=decide ((vs e).length <= 200) && decide ((vl e).length = 0)
def few1 (d : D) : Bool:=decide ((vs d).length <= 200) && decide ((vl d).length <= 30) && (vl d).all leafFew
def fewB (xs : List D) (n : Int) : Bool:=(xs.take 100).all few1 && decide ((xs.length : Int) <= n)
def φFew : List D -> Option D
 | [l,.int .i64 n]=>if isSl l = true /\ D.isVs (elems l) = true /\ (elems l).length <= 2 ^ 47 then some (.bool (fewB (elems l) n)) else none
 | _=>none
theorem ok111 [HasG Tryz.prog] : OkAt Tryz.prog 111 φFew:=by
 refine ok_of (l:=[]) .nil fn111 fun args r h=>?_
 unfold φFew at h
 split at h
 ·split at h
  ·rename_i l n hl
   injection h with h;subst h
   refine ⟨by simp,by simp [D.cl],fun H T=>?_⟩
   obtain ⟨hl1,hl2,hl3⟩:=hl
   obtain ⟨b,hb⟩:=isSl_elim hl1
   generalize elems l = xs at hb hl2 hl3
   subst hb
   have hV:=isVs_iff.1 hl2
   simp +contextual (maxSteps:=10000000) only [c111,go_sem]
   refine W_for (fun i s=>s.t 0 = sliceD b xs /\ s.t 1 = .int .i64 n /\ s.t 5 = .int .i64 i /\ s.H = H /\ s.T = T /\ i <= 100 /\ i <= xs.length /\ (xs.take i).all few1 = true) 100 ⟨0,by simp [upd,argT]⟩ (fun i s h=>h.2.2.2.2.2.1) ?_ (XL_mono _)
   rintro i ⟨t,H',T'⟩ ⟨h0,h1,h5,rfl,rfl,hi,hj,hc⟩
   simp only at h0 h1 h5
   by_cases ha : i < xs.length /\ i < 100
   ·obtain ⟨ha,hb'⟩:=ha
    have d1 : decide ((i : Int) < xs.length) = true:=by simpa using ha
    have d2 : decide ((i : Int) < 100) = true:=by simp;omega
    obtain ⟨k,i',s,m,l',he,hs1,hs2,hV'⟩:=isV_elim (hV _ (List.getElem_mem ha))
    have e1 : xs[i]? = some (mkV k i' s m l'):=by rw [<- he];simp [ha]
    simp +contextual (maxSteps:=10000000) only [h0,h1,h5,d1,d2,e1,mkV,go_sem]
    have f1 : few1 (mkV k i' s m l') = (decide (s.length <= 200) && decide (l'.length <= 30) && l'.all leafFew):=by simp only [few1,vs_mk,vl_mk]
    have bad : few1 (mkV k i' s m l') = false -> fewB xs n = false:=fun h=>by simp only [fewB,all_false_of e1 h hb',Bool.false_and]
    refine ⟨fun q=>?_,fun q1=>⟨fun q=>?_,fun q2=>?_⟩⟩
    ·rw [bad];rw [f1];simp at q ⊢;omega
    ·rw [bad];rw [f1];simp at q ⊢;omega
    ·refine W_for (fun j s=>s.t 0 = sliceD b xs /\ s.t 1 = .int .i64 n /\ s.t 5 = .int .i64 i /\ s.t 6 = .int .i64 j /\ s.H = H' /\ s.T = T' /\ j <= l'.length /\ (l'.take j).all leafFew = true) l'.length ⟨0,by simp [upd,h0,h1,h5]⟩ (fun i s h=>h.2.2.2.2.2.2.1) ?_ (XL_mono _)
     rintro j ⟨t,H',T'⟩ ⟨h0,h1,h5,h6,rfl,rfl,hj2,hc2⟩
     simp only at h0 h1 h5 h6
     by_cases hb2 : j < l'.length
     ·have d3 : decide ((j : Int) < l'.length) = true:=by simpa using hb2
      obtain ⟨k2,i2,s2,m2,l2,he2,hs21,hs22,hV2⟩:=isV_elim (hV' _ (List.getElem_mem hb2))
      have e2 : l'[j]? = some (mkV k2 i2 s2 m2 l2):=by rw [<- he2];simp [hb2]
      have f2 : leafFew (mkV k2 i2 s2 m2 l2) = (decide (s2.length <= 200) && decide (l2.length = 0)):=by simp only [leafFew,vs_mk,vl_mk]
      have bad2 : leafFew (mkV k2 i2 s2 m2 l2) = false -> fewB xs n = false:=fun h=>bad (by
       have hm : l'.all leafFew = false:=by
        have:=all_false_of e2 h hb2
        rwa [List.take_length] at this
       rw [f1,hm,Bool.and_false])
      simp +contextual (maxSteps:=10000000) only [h0,h1,h5,h6,d3,e1,e2,mkV,wrap_succ j (by omega),go_sem]
      refine ⟨fun q=>?_,fun q1=>⟨fun q=>?_,fun q2=>⟨by omega,?_⟩⟩⟩
      ·rw [bad2];rw [f2];simp at q ⊢;omega
      ·rw [bad2];rw [f2];simp only [decide_eq_true_eq,Bool.and_eq_false_iff,decide_eq_false_iff_not] at q ⊢;omega
      ·rw [all_take_succ e2,hc2,f2];simp only [decide_eq_true_eq,Bool.and_eq_true,decide_eq_false_iff_not,true_and] at q1 q2 ⊢;omega
     ·have d3 : decide ((j : Int) < l'.length) = false:=by simpa using hb2
      have hall : l'.all leafFew = true:=by rwa [List.take_of_length_le (by omega)] at hc2
      have f3 : few1 (mkV k i' s m l') = true:=by rw [f1,hall];simp at q1 q2 ⊢;omega
      have hc3 : (xs.take (i + 1)).all few1 = true:=by rw [all_take_succ e1,hc,f3];rfl
      simp +contextual (maxSteps:=10000000) only [h0,h1,h5,h6,d3,e1,mkV,wrap_succ i (by omega),go_sem]
      exact ⟨by omega,by omega,hc3⟩
   ·have hcf : (xs.take 100).all few1 = true:=by
     by_cases hx : i < xs.length
     ·have : i = 100:=by omega
      rw [<- this];exact hc
     ·rw [List.take_of_length_le (by omega)] at hc
      exact List.all_eq_true.2 fun x hx=>List.all_eq_true.1 hc x (List.mem_of_mem_take hx)
    by_cases hx : i < xs.length
    ·have d1 : decide ((i : Int) < xs.length) = true:=by simpa using hx
     have d2 : decide ((i : Int) < 100) = false:=by simp;omega
     simp +contextual (maxSteps:=10000000) only [h0,h1,h5,d1,d2,fewB,hcf,go_sem]
    ·have d1 : decide ((i : Int) < xs.length) = false:=by simpa using hx
     simp +contextual (maxSteps:=10000000) only [h0,h1,h5,d1,fewB,hcf,go_sem]
  ·cases h
 ·cases h
end GP
namespace GP
open Go Go.Proofs
set_option maxRecDepth 100000
theorem wrap_pred (n : Nat) (h : n < 2 ^ 61) (h0 : 0 < n) : IntKind.i64.wrap ((n : Int) - 1) = ((n - 1 : Nat) : Int):=by
 rw [wrap_of _ (by omega) (by omega)];omega
theorem all_range_succ {p : Nat -> Bool} (i : Nat) : (List.range (i + 1)).all p = ((List.range i).all p && p i):=by
 rw [List.range_succ];simp
theorem range_false_of {p : Nat -> Bool} {i m : Nat} (hp : p i = false) (him : i < m) : (List.range m).all p = false:=by
 cases hq : (List.range m).all p with
 | false=>rfl
 | true=>rw [List.all_eq_true.1 hq i (by simpa using him)] at hp;cases hp
def one1 (d : D) : Bool:=plainB (vk d) (vi d) (vs d) (vl d).length
def vk0 : List D -> Int
 | x :: _=>vk x
 | []=>0
def okEl (cmp : D -> D -> Int) (xs : List D) (i : Nat) : Bool:=match xs[i]? with
 | none=>true
 | some x=>one1 x && (vk x != 0) && (vk x == vk0 xs) && (i == 0 || (match xs[i - 1]? with | some y=>decide (cmp y x < 0) | none=>false))
def adjB (cmp : D -> D -> Int) (xs : List D) : Bool:=(List.range xs.length).all (okEl cmp xs)
def singleD (a b : D) : Int:=singleI (vk a) (vi a) (vs a) (vk b) (vi b) (vs b)
def formedB (d : D) : Bool:=if vk d != 5 then one1 d else if (vi d != 0) || (vs d != []) || decide ((16 : Int) < (vl d).length) then false else adjB singleD (vl d)
def φformed : List D -> Option D
 | [d]=>if d.isV = true then some (.bool (formedB d)) else none
 | _=>none
theorem vk0_get {xs : List D} {k i : Int} {s : List UInt8} {n : Bool} {l : List D} (h : xs[0]? = some (mkV k i s n l)) : vk0 xs = k:=by
 cases xs with
 | nil=>simp at h
 | cons x xs=>simp at h;subst h;rfl
theorem erase_of_isV {l : List D} (h : ∀ x ∈ l,x.isV = true) : D.eraseL l = l:=isVs_erase (isVs_iff.2 h)
theorem get_isV {xs : List D} (h : ∀ x ∈ xs,x.isV = true) {i : Nat} (hi : i < xs.length) : ∃ k i' s n l,xs[i]? = some (mkV k i' s n l) /\ s.length <= 2 ^ 47 /\ l.length <= 2 ^ 47 /\ (∀ x ∈ l,x.isV = true) /\ D.eraseL l = l:=by
 obtain ⟨k,i',s,n,l,he,h1,h2,h3⟩:=isV_elim (h _ (List.getElem_mem hi))
 exact ⟨k,i',s,n,l,by rw [<- he];simp [hi],h1,h2,h3,erase_of_isV h3⟩
theorem ok107 [HasG Tryz.prog] : OkAt Tryz.prog 107 φformed:=by
 refine ok_of (l:=[(171,φone),(172,φsingle)]) (.cons ok171 (.cons ok172 .nil)) fn107 fun args r h=>?_
 unfold φformed at h
 split at h
 ·split at h
  ·rename_i d hd
   injection h with h;subst h
   refine ⟨by simp,by simp [D.cl],fun H T=>?_⟩
   obtain ⟨k,i,s,n,xs,rfl,hs,hx,hV⟩:=isV_elim hd
   have eL:=erase_of_isV hV
   have F : formedB (mkV k i s n xs) = if k != 5 then plainB k i s xs.length else if (i != 0) || (s != []) || decide ((16 : Int) < xs.length) then false else adjB singleD xs:=by simp only [formedB,one1,vk_mk,vi_mk,vs_mk,vl_mk]
   rw [F]
   simp +contextual (maxSteps:=10000000) only [c107,mkV,φone,eL,go_sem]
   intro q1 q2 q3 q4
   refine W_for (fun j s'=>s'.t 1 = .ptr H.length 0 /\ s'.t 3 = .int .i64 j /\ s'.H = H ++ [.row [.int .i64 k,.int .i64 i,.str s,sliceD n xs]] /\ s'.T = T /\ j <= xs.length /\ (List.range j).all (okEl singleD xs) = true) xs.length ⟨0,by simp [upd,argT]⟩ (fun i s h=>h.2.2.2.2.1) ?_ (XL_mono _)
   rintro j ⟨t,H',T'⟩ ⟨h1,h3,rfl,rfl,hj,hc⟩
   simp only at h1 h3
   by_cases ha : j < xs.length
   ·have d1 : decide ((j : Int) < xs.length) = true:=by simpa using ha
    obtain ⟨k1,i1,s1,n1,l1,e1,hs1,hx1,hV1,eL1⟩:=get_isV hV ha
    obtain ⟨k0,i0,s0,n0,l0,e0,_⟩:=get_isV hV (show 0 < xs.length by omega)
    have fk:=vk0_get e0
    by_cases hj0 : 0 < j
    ·obtain ⟨k2,i2,s2,n2,l2,e2,hs2,hx2,hV2,eL2⟩:=get_isV hV (show j - 1 < xs.length by omega)
     have d2 : decide ((0 : Int) < j) = true:=by simpa using hj0
     have G : okEl singleD xs j = (plainB k1 i1 s1 l1.length && (k1 != 0) && (k1 == k0) && decide (singleI k2 i2 s2 k1 i1 s1 < 0)):=by
      have : (j == 0) = false:=by simp;omega
      simp only [okEl,e1,e2,fk,one1,singleD,vk_mk,vi_mk,vs_mk,vl_mk,this,Bool.false_or]
     have bad : okEl singleD xs j = false -> adjB singleD xs = false:=fun h=>range_false_of h ha
     simp +contextual (maxSteps:=10000000) only [h1,h3,d1,d2,e0,e1,e2,mkV,φone,φsingle,eL1,eL2,wrap_pred j (by omega) hj0,wrap_succ j (by omega),hs1,hs2,Option.isSome_some,go_sem]
     refine ⟨fun q=>?_,fun p1=>⟨fun q=>?_,fun p2=>⟨fun q=>?_,fun p3=>⟨fun q=>?_,fun p4=>⟨by omega,?_⟩⟩⟩⟩⟩
     ·rw [bad (by rw [G];grind)]
     ·rw [bad (by rw [G];grind)]
     ·rw [bad (by rw [G];grind)]
     ·rw [bad (by rw [G];grind)]
     ·rw [List.all_append,hc]
      simp only [List.all_cons,List.all_nil,G]
      grind
    ·have d2 : decide ((0 : Int) < j) = false:=by simpa using hj0
     have G : okEl singleD xs j = (plainB k1 i1 s1 l1.length && (k1 != 0) && (k1 == k0)):=by
      have : (j == 0) = true:=by simp;omega
      simp only [okEl,e1,fk,one1,singleD,vk_mk,vi_mk,vs_mk,vl_mk,this,Bool.true_or,Bool.and_true]
     have bad : okEl singleD xs j = false -> adjB singleD xs = false:=fun h=>range_false_of h ha
     simp +contextual (maxSteps:=10000000) only [h1,h3,d1,d2,e0,e1,mkV,φone,φsingle,eL1,wrap_succ j (by omega),hs1,Option.isSome_some,go_sem]
     refine ⟨fun q=>?_,fun p1=>⟨fun q=>?_,fun p2=>⟨fun q=>?_,fun p3=>⟨by omega,?_⟩⟩⟩⟩
     ·rw [bad (by rw [G];grind)]
     ·rw [bad (by rw [G];grind)]
     ·rw [bad (by rw [G];grind)]
     ·rw [List.all_append,hc]
      simp only [List.all_cons,List.all_nil,G]
      grind
   ·have d1 : decide ((j : Int) < xs.length) = false:=by simpa using ha
    have hA : adjB singleD xs = true:=by
     have : j = xs.length:=by omega
     subst this;exact hc
    simp +contextual (maxSteps:=10000000) only [h1,h3,d1,mkV,hA,go_sem]
  ·cases h
 ·cases h
theorem putRow_app (n off : Nat) (v : D) (M : Hp) : ∀ (L : Hp) (i : Nat),putRow n off v (L ++ M) (L.length + i) = (putRow n off v M i).map (L ++ ·)
 | [],i=>by simp
 | x :: L,i=>by
  have e : (x :: L).length + i = (L.length + i) + 1:=by simp;omega
  rw [e,List.cons_append,putRow_s,putRow_app n off v M L i]
  cases putRow n off v M i <;> simp
@[go_sem] theorem putRow_app' (n off : Nat) (v : D) (L M : Hp) (i : Nat) : putRow n off v (L ++ M) (L.length + i) = (putRow n off v M i).map (L ++ ·):=putRow_app n off v M L i
@[go_sem] theorem putRow_app0 (n off : Nat) (v : D) (L M : Hp) : putRow n off v (L ++ M) L.length = (putRow n off v M 0).map (L ++ ·):=putRow_app n off v M L 0
def or3 (a b c : Int) : Int:=if a != 0 then a else if b != 0 then b else c
def φOr : List D -> Option D
 | [.sl none [.int .i64 a,.int .i64 b,.int .i64 c]]=>some (.int .i64 (or3 a b c))
 | _=>none
theorem ok112 [HasG Tryz.prog] : OkAt Tryz.prog 112 φOr:=by
 refine ok_of (l:=[]) .nil fn112 fun args r h=>?_
 unfold φOr at h
 split at h
 ·injection h with h;subst h
  rename_i a b c
  refine ⟨by simp,by simp [D.cl],fun H T=>?_⟩
  simp +contextual (maxSteps:=10000000) only [c112,go_sem]
  refine W_for (fun i s=>s.t 3 = .int .i64 0 /\ s.t 6 = .sl none [.int .i64 a,.int .i64 b,.int .i64 c] /\ s.t 7 = .int .i64 3 /\ s.t 8 = .int .i64 i /\ s.H = H /\ s.T = T /\ i <= 3 /\ (1 <= i -> a = 0) /\ (2 <= i -> b = 0) /\ (3 <= i -> c = 0)) 3 ⟨0,by simp [upd,argT]⟩ (fun i s h=>h.2.2.2.2.2.2.1) ?_ (XL_mono _)
  rintro i ⟨t,H',T'⟩ ⟨h3,h6,h7,h8,rfl,rfl,hi,z1,z2,z3⟩
  simp only at h3 h6 h7 h8
  have w1 : IntKind.i64.wrap 1 = 1:=by decide
  have w2 : IntKind.i64.wrap 2 = 2:=by decide
  have w3 : IntKind.i64.wrap 3 = 3:=by decide
  match i,hi with
  | 0,_ =>
   simp +contextual (maxSteps:=10000000) only [h3,h6,h7,h8,or3,w1,Int.reduceAdd,go_sem]
   grind
  | 1,_ =>
   have:=z1 (by omega);subst this
   simp +contextual (maxSteps:=10000000) only [h3,h6,h7,h8,or3,w2,Int.reduceAdd,go_sem]
   grind
  | 2,_ =>
   have:=z1 (by omega);subst this
   have:=z2 (by omega);subst this
   simp +contextual (maxSteps:=10000000) only [h3,h6,h7,h8,or3,w3,Int.reduceAdd,go_sem]
   grind
  | 3,_ =>
   have:=z1 (by omega);subst this
   have:=z2 (by omega);subst this
   have:=z3 (by omega);subst this
   simp +contextual (maxSteps:=10000000) only [h3,h6,h7,h8,or3,go_sem]
 ·cases h
def cmpL (f : D -> D -> Int) : List D -> List D -> Int
 | [],[]=>0
 | [],_ :: _=>-1
 | _ :: _,[]=>1
 | x :: xs,y :: ys=>if f x y != 0 then f x y else cmpL f xs ys
def φCF (dom : D -> Bool) (f : D -> D -> Int) : List D -> Option D
 | [l1,l2,.fn 64 [] []]=>if isSl l1 = true /\ isSl l2 = true /\ D.isVs (elems l1) = true /\ D.isVs (elems l2) = true /\ (elems l1).all dom = true /\ (elems l2).all dom = true /\ (elems l1).length <= 2 ^ 47 /\ (elems l2).length <= 2 ^ 47 then some (.int .i64 (cmpL f (elems l1) (elems l2))) else none
 | _=>none
theorem ok116 [HasG Tryz.prog] {φ : List D -> Option D} (h13 : OkAt Tryz.prog 64 φ) {dom : D -> Bool} {f : D -> D -> Int} (hφ : ∀ x y,x.isV = true -> y.isV = true -> dom x = true -> dom y = true -> φ [x,y] = some (.int .i64 (f x y))) : OkAt Tryz.prog 116 (φCF dom f):=by
 refine ok_of (l:=[(64,φ)]) (.cons h13 .nil) fn116 fun args r h=>?_
 unfold φCF at h
 split at h
 ·split at h
  ·rename_i l1 l2 hl
   injection h with h;subst h
   refine ⟨by simp,by simp [D.cl],fun H T=>?_⟩
   obtain ⟨g1,g2,g3,g4,g5,g6,g7,g8⟩:=hl
   obtain ⟨b1,hb1⟩:=isSl_elim g1
   obtain ⟨b2,hb2⟩:=isSl_elim g2
   generalize elems l1 = xs at *
   generalize elems l2 = ys at *
   subst hb1;subst hb2
   have hV1:=isVs_iff.1 g3
   have hV2:=isVs_iff.1 g4
   simp +contextual (maxSteps:=10000000) only [c116,go_sem]
   refine W_for (fun i s=>s.t 0 = sliceD b1 xs /\ s.t 1 = sliceD b2 ys /\ s.t 2 = .fn 64 [] [] /\ s.t 11 = sliceD b1 xs /\ s.t 12 = .int .i64 xs.length /\ s.t 13 = .int .i64 i /\ (∃ L,s.H = H ++ L) /\ s.T = T /\ i <= xs.length /\ i <= ys.length /\ cmpL f (xs.drop i) (ys.drop i) = cmpL f xs ys) xs.length ⟨0,by simp [upd,argT]⟩ (fun i s h=>h.2.2.2.2.2.2.2.2.1) ?_ (XL_mono _)
   rintro i ⟨t,H',T'⟩ ⟨h0,h1,h2,h11,h12,h13,⟨L,rfl⟩,rfl,hi,hj,hc⟩
   simp only at h0 h1 h2 h11 h12 h13
   by_cases ha : i < xs.length
   ·have d1 : decide ((i : Int) < xs.length) = true:=by simpa using ha
    obtain ⟨k1,i1,s1,n1,q1,e1,_,_,v1,r1⟩:=get_isV hV1 ha
    by_cases hb : i < ys.length
    ·have d2 : decide ((ys.length : Int) <= i) = false:=by simp;omega
     obtain ⟨k2,i2,s2,n2,q2,e2,_,_,v2,r2⟩:=get_isV hV2 hb
     have x1 : xs[i] = mkV k1 i1 s1 n1 q1:=by rw [List.getElem?_eq_getElem ha] at e1;exact Option.some.inj e1
     have x2 : ys[i] = mkV k2 i2 s2 n2 q2:=by rw [List.getElem?_eq_getElem hb] at e2;exact Option.some.inj e2
     have p:=hφ _ _ (hV1 _ (List.getElem_mem ha)) (hV2 _ (List.getElem_mem hb)) (List.all_eq_true.1 g5 _ (List.getElem_mem ha)) (List.all_eq_true.1 g6 _ (List.getElem_mem hb))
     rw [List.drop_eq_getElem_cons ha,List.drop_eq_getElem_cons hb,cmpL] at hc
     rw [x1,x2] at p hc
     generalize f (mkV k1 i1 s1 n1 q1) (mkV k2 i2 s2 n2 q2) = F at p hc
     simp only [mkV] at p
     simp +contextual (maxSteps:=10000000) only [h0,h1,h2,h11,h12,h13,d1,d2,e1,e2,mkV,p,r1,r2,wrap_succ i (by omega),go_sem]
     refine ⟨fun q=>?_,fun q=>⟨⟨_,rfl⟩,by omega,by omega,?_⟩⟩
     ·rw [if_pos q] at hc;rw [hc]
     ·rw [if_neg (by rw [q];decide)] at hc;exact hc
    ·have d2 : decide ((ys.length : Int) <= i) = true:=by simp;omega
     rw [List.drop_eq_getElem_cons ha,List.drop_eq_nil_of_le (by omega : ys.length <= i),cmpL] at hc
     simp +contextual (maxSteps:=10000000) only [h0,h1,h2,h11,h12,h13,d1,d2,e1,mkV,← hc,go_sem]
   ·have d1 : decide ((i : Int) < xs.length) = false:=by simpa using ha
    rw [List.drop_eq_nil_of_le (by omega : xs.length <= i)] at hc
    by_cases hb : i < ys.length
    ·have d2 : decide ((xs.length : Int) < ys.length) = true:=by simp;omega
     rw [List.drop_eq_getElem_cons hb,cmpL] at hc
     simp +contextual (maxSteps:=10000000) only [h0,h1,h2,h11,h12,h13,d1,d2,← hc,go_sem]
    ·have d2 : decide ((xs.length : Int) < ys.length) = false:=by simp;omega
     rw [List.drop_eq_nil_of_le (by omega : ys.length <= i),cmpL] at hc
     simp +contextual (maxSteps:=10000000) only [h0,h1,h2,h11,h12,h13,d1,d2,← hc,go_sem]
  ·cases h
 ·cases h
def ordW (f : D -> D -> Int) (a b : D) : Int :=
 if or3 (cmpI (vk a) (vk b)) (cmpI (vi a) (vi b)) (cmpS (vs a) (vs b)) != 0 then or3 (cmpI (vk a) (vk b)) (cmpI (vi a) (vi b)) (cmpS (vs a) (vs b)) else cmpL f (vl a) (vl b)
def φOrd (dom : D -> Bool) (f : D -> D -> Int) : List D -> Option D
 | [a,b]=>if a.isV = true /\ b.isV = true /\ (vl a).all dom = true /\ (vl b).all dom = true then some (.int .i64 (ordW f a b)) else none
 | _=>none
theorem ok64 [HasG Tryz.prog] {dom : D -> Bool} {f : D -> D -> Int} (h38 : OkAt Tryz.prog 116 (φCF dom f)) : OkAt Tryz.prog 64 (φOrd dom f):=by
 refine ok_of (l:=[(113,φnumbers),(114,φnumbers),(115,φcmp),(112,φOr),(116,φCF dom f)]) (.cons ok113 (.cons ok114 (.cons ok115 (.cons ok112 (.cons h38 .nil))))) fn64 fun args r h=>?_
 unfold φOrd at h
 split at h
 ·split at h
  ·rename_i a b hab
   injection h with h;subst h
   refine ⟨by simp,by simp [D.cl],fun H T=>?_⟩
   obtain ⟨ha,hb,hda,hdb⟩:=hab
   obtain ⟨k1,i1,s1,n1,l1,rfl,z1,y1,hV1⟩:=isV_elim ha
   obtain ⟨k2,i2,s2,n2,l2,rfl,z2,y2,hV2⟩:=isV_elim hb
   simp only [vl_mk] at hda hdb
   have r1:=erase_of_isV hV1
   have r2:=erase_of_isV hV2
   have p : φCF dom f [sliceD n1 l1,sliceD n2 l2,.fn 64 [] []] = some (.int .i64 (cmpL f l1 l2)):=by
    simp only [φCF,isSl_sliceD,elems_sliceD,isVs_iff.2 hV1,isVs_iff.2 hV2,hda,hdb,y1,y2,and_self,if_true]
   have q : ordW f (mkV k1 i1 s1 n1 l1) (mkV k2 i2 s2 n2 l2) = if or3 (cmpI k1 k2) (cmpI i1 i2) (cmpS s1 s2) != 0 then or3 (cmpI k1 k2) (cmpI i1 i2) (cmpS s1 s2) else cmpL f l1 l2:=by
    simp only [ordW,vk_mk,vi_mk,vs_mk,vl_mk]
   rw [q]
   simp +contextual (maxSteps:=10000000) only [c64,mkV,φnumbers,φcmp,φOr,r1,r2,p,fit_eq,go_sem]
  ·cases h
 ·cases h
theorem ok64none [HasG Tryz.prog] : OkAt Tryz.prog 64 (fun _=>none):=fun _ _ h=>by cases h
def dom0 (_ : D) : Bool:=false
def f0 (_ _ : D) : Int:=0
def ord0:=ordW f0
theorem ok64a [HasG Tryz.prog] : OkAt Tryz.prog 64 (φOrd dom0 f0):=ok64 (ok116 ok64none (fun _ _ _ _ h=>by cases h))
def leaf (d : D) : Bool:=(vl d).isEmpty
theorem ord_leaf {x y : D} (hx : x.isV = true) (hy : y.isV = true) (h1 : leaf x = true) (h2 : leaf y = true) : φOrd dom0 f0 [x,y] = some (.int .i64 (ord0 x y)):=by
 simp only [leaf,List.isEmpty_iff] at h1 h2
 simp [φOrd,hx,hy,h1,h2,ord0]
def formedV (d : D) : Bool:=if vk d != 5 then one1 d else if adjB ord0 (vl d) then (vi d == 0) && (vs d == []) && decide (((vl d).length : Int) <= 16) else false
def φFormed : List D -> Option D
 | [d]=>if d.isV = true then some (.bool (formedV d)) else none
 | _=>none
theorem plain_leaf {k i : Int} {s : List UInt8} {n : Nat} (h : plainB k i s n = true) : n = 0:=by
 unfold plainB at h
 by_cases hn : (0 : Int) < n
 ·simp [hn] at h
  exact h.1
 ·omega
theorem ok129 [HasG Tryz.prog] : OkAt Tryz.prog 129 φFormed:=by
 refine ok_of (l:=[(179,φplain),(64,φOrd dom0 f0)]) (.cons ok179 (.cons ok64a .nil)) fn129 fun args r h=>?_
 unfold φFormed at h
 split at h
 ·split at h
  ·rename_i d hd
   injection h with h;subst h
   refine ⟨by simp,by simp [D.cl],fun H T=>?_⟩
   obtain ⟨k,i,s,n,xs,rfl,hs,hx,hV⟩:=isV_elim hd
   have eL:=erase_of_isV hV
   have F : formedV (mkV k i s n xs) = if k != 5 then plainB k i s xs.length else if adjB ord0 xs then (i == 0) && (s == []) && decide ((xs.length : Int) <= 16) else false:=by simp only [formedV,one1,vk_mk,vi_mk,vs_mk,vl_mk]
   rw [F]
   simp +contextual (maxSteps:=10000000) only [c129,mkV,φplain,eL,go_sem]
   intro q1
   refine W_for (fun j s'=>s'.t 1 = .ptr H.length 0 /\ s'.t 11 = sliceD n xs /\ s'.t 12 = .int .i64 xs.length /\ s'.t 13 = .int .i64 j /\ (∃ L,s'.H = H ++ .row [.int .i64 k,.int .i64 i,.str s,sliceD n xs] :: L) /\ s'.T = T /\ j <= xs.length /\ (List.range j).all (okEl ord0 xs) = true) xs.length ⟨0,by simp [upd,argT]⟩ (fun i s h=>h.2.2.2.2.2.2.1) ?_ (XL_mono _)
   rintro j ⟨t,H',T'⟩ ⟨h1,h11,h12,h13,⟨L,rfl⟩,rfl,hj,hc⟩
   simp only at h1 h11 h12 h13
   by_cases ha : j < xs.length
   ·have d1 : decide ((j : Int) < xs.length) = true:=by simpa using ha
    obtain ⟨k1,i1,s1,n1,l1,e1,hs1,hx1,hV1,eL1⟩:=get_isV hV ha
    obtain ⟨k0,i0,s0,n0,l0,e0,_⟩:=get_isV hV (show 0 < xs.length by omega)
    have fk:=vk0_get e0
    have bad : okEl ord0 xs j = false -> adjB ord0 xs = false:=fun h=>range_false_of h ha
    by_cases hj0 : 0 < j
    ·obtain ⟨k2,i2,s2,n2,l2,e2,hs2,hx2,hV2,eL2⟩:=get_isV hV (show j - 1 < xs.length by omega)
     have d2 : decide ((0 : Int) < j) = true:=by simpa using hj0
     have pv : okEl ord0 xs (j - 1) = true:=List.all_eq_true.1 hc (j - 1) (by simp;omega)
     have lf2 : l2 = []:=by
      simp only [okEl,e2,one1,vk_mk,vi_mk,vs_mk,vl_mk,Bool.and_eq_true] at pv
      exact List.length_eq_zero_iff.1 (plain_leaf pv.1.1.1)
     subst lf2
     generalize ho : ord0 (mkV k2 i2 s2 n2 []) (mkV k1 i1 s1 n1 l1) = o
     have G : okEl ord0 xs j = (plainB k1 i1 s1 l1.length && (k1 != 0) && (k1 == k0) && decide (o < 0)):=by
      have : (j == 0) = false:=by simp;omega
      simp only [okEl,e1,e2,fk,one1,ho,vk_mk,vi_mk,vs_mk,vl_mk,this,Bool.false_or]
     by_cases hp : plainB k1 i1 s1 l1.length = true
     ·have lf1 : l1 = []:=List.length_eq_zero_iff.1 (plain_leaf hp)
      subst lf1
      have p:=ord_leaf (x:=mkV k2 i2 s2 n2 []) (y:=mkV k1 i1 s1 n1 []) (isV_mk hs2 (by simp) (by simp)) (isV_mk hs1 (by simp) (by simp)) (by simp [leaf,vl_mk]) (by simp [leaf,vl_mk])
      rw [ho] at p
      simp only [mkV] at p
      simp only [List.length_nil] at hp G
      simp +contextual (maxSteps:=10000000) only [h1,h11,h12,h13,d1,d2,e0,e1,e2,mkV,φplain,p,hp,wrap_pred j (by omega) hj0,wrap_succ j (by omega),go_sem]
      refine ⟨fun q=>?_,fun p2=>⟨fun q=>?_,fun p3=>⟨fun q=>?_,fun p4=>⟨⟨_,rfl⟩,by omega,?_⟩⟩⟩⟩
      ·rw [bad (by rw [G];grind)];rfl
      ·rw [bad (by rw [G];grind)];rfl
      ·rw [bad (by rw [G];grind)];rfl
      ·rw [List.all_append,hc]
       simp only [List.all_cons,List.all_nil,G]
       grind
     ·have hp' : plainB k1 i1 s1 l1.length = false:=by simpa using hp
      have hb:=bad (by rw [G,hp'];rfl)
      simp +contextual (maxSteps:=10000000) only [h1,h11,h12,h13,d1,d2,e0,e1,e2,mkV,φplain,hp',eL1,hb,go_sem]
    ·have d2 : decide ((0 : Int) < j) = false:=by simpa using hj0
     have G : okEl ord0 xs j = (plainB k1 i1 s1 l1.length && (k1 != 0) && (k1 == k0)):=by
      have : (j == 0) = true:=by simp;omega
      simp only [okEl,e1,fk,one1,vk_mk,vi_mk,vs_mk,vl_mk,this,Bool.true_or,Bool.and_true]
     simp +contextual (maxSteps:=10000000) only [h1,h11,h12,h13,d1,d2,e0,e1,mkV,φplain,eL1,wrap_succ j (by omega),go_sem]
     refine ⟨fun q=>?_,fun p1=>⟨fun q=>?_,fun p2=>⟨fun q=>?_,fun p3=>⟨⟨_,rfl⟩,by omega,?_⟩⟩⟩⟩
     ·rw [bad (by rw [G];grind)];rfl
     ·rw [bad (by rw [G];grind)];rfl
     ·rw [bad (by rw [G];grind)];rfl
     ·rw [List.all_append,hc]
      simp only [List.all_cons,List.all_nil,G]
      grind
   ·have d1 : decide ((j : Int) < xs.length) = false:=by simpa using ha
    have hA : adjB ord0 xs = true:=by
     have : j = xs.length:=by omega
     subst this;exact hc
    simp +contextual (maxSteps:=10000000) only [h1,h11,h12,h13,d1,mkV,hA,go_sem]
  ·cases h
 ·cases h
end GP
namespace GP
open Go Go.Proofs
set_option maxRecDepth 100000
theorem plain_facts {k i : Int} {s : List UInt8} {n : Nat} (h : plainB k i s n = true) : n = 0 /\ (k = 3 -> i = 0) /\ (k ≠ 3 -> s = []) /\ 0 <= k /\ k <= 4:=by
 refine ⟨plain_leaf h,?_,?_,?_,?_⟩ <;> unfold plainB at h <;> grind
theorem cmpI_self (a : Int) : cmpI a a = 0:=by simp [cmpI]
theorem cmpI_ne {a b : Int} (h : a ≠ b) : cmpI a b ≠ 0:=by unfold cmpI;split <;> (try split) <;> omega
theorem or3_eq {a b : D} (ha : one1 a = true) (hb : one1 b = true) : or3 (cmpI (vk a) (vk b)) (cmpI (vi a) (vi b)) (cmpS (vs a) (vs b)) = singleD a b:=by
 obtain ⟨_,a1,a2,_⟩:=plain_facts ha
 obtain ⟨_,b1,b2,_⟩:=plain_facts hb
 simp only [or3,singleD,singleI]
 by_cases hk : vk a = vk b
 ·by_cases h3 : vk a = 3
  ·have e1:=a1 h3
   have e2:=b1 (by omega)
   simp [hk,cmpI_self,e1,e2,show vk b = 3 by omega]
  ·have e1:=a2 h3
   have e2:=b2 (by omega)
   have h3' : ¬ vk b = 3:=by omega
   simp only [hk,cmpI_self,e1,e2,cmpS]
   simp [h3']
   intro h;rw [h]
 ·have:=cmpI_ne hk
  simp [hk,this]
theorem ord_single {a b : D} (ha : one1 a = true) (hb : one1 b = true) (f : D -> D -> Int) : ordW f a b = singleD a b:=by
 have la : vl a = []:=List.length_eq_zero_iff.1 (plain_facts ha).1
 have lb : vl b = []:=List.length_eq_zero_iff.1 (plain_facts hb).1
 unfold ordW
 rw [or3_eq ha hb,la,lb]
 simp only [cmpL]
 split
 ·rfl
 ·rename_i h;simpa using Eq.symm (show singleD a b = 0 by simpa using h)
theorem okEl_same {xs : List D} {i : Nat} (hp : 0 < i -> okEl ord0 xs (i - 1) = true) : okEl ord0 xs i = okEl singleD xs i:=by
 unfold okEl
 cases hx : xs[i]? with
 | none=>rfl
 | some x =>
  simp only
  by_cases h0 : i = 0
  ·simp [h0]
  ·have hq:=hp (by omega)
   unfold okEl at hq
   cases hy : xs[i - 1]? with
   | none=>rfl
   | some y =>
    rw [hy] at hq
    simp only [Bool.and_eq_true] at hq
    by_cases h1 : one1 x = true
    ·have : ord0 y x = singleD y x:=ord_single hq.1.1.1 h1 f0
     simp only [this]
    ·simp [h1]
theorem adj_same (xs : List D) : ∀ n,(List.range n).all (okEl ord0 xs) = (List.range n).all (okEl singleD xs)
 | 0=>rfl
 | n + 1=>by
  rw [all_range_succ,all_range_succ,← adj_same xs n]
  cases hq : (List.range n).all (okEl ord0 xs) with
  | false=>rfl
  | true =>
   simp only [Bool.true_and]
   exact okEl_same fun h0=>List.all_eq_true.1 hq (n - 1) (by simp;omega)
theorem formed_same (d : D) : formedV d = formedB d:=by
 unfold formedV formedB
 have : adjB ord0 (vl d) = adjB singleD (vl d):=adj_same _ _
 rw [this]
 grind
theorem el_one {xs : List D} (h : adjB singleD xs = true) : ∀ x ∈ xs,one1 x = true:=by
 intro x hx
 obtain ⟨i,hi,rfl⟩:=List.getElem_of_mem hx
 have:=List.all_eq_true.1 h i (by simpa using hi)
 unfold okEl at this
 simp only [List.getElem?_eq_getElem hi,Bool.and_eq_true] at this
 exact this.1.1.1
end GP
namespace GP
open Go Go.Proofs
set_option maxRecDepth 100000
def sameEl (x y : D) : Bool:=(vk x == vk y) && (vi x == vi y) && (vs x == vs y) && !decide ((0 : Int) < (vl x).length) && !decide ((0 : Int) < (vl y).length)
def okSame (xs ys : List D) (i : Nat) : Bool:=match xs[i]?,ys[i]? with
 | some x,some y=>sameEl x y
 | _,_=>true
def sameB (a b : D) : Bool:=if (vk a != vk b) || (vi a != vi b) || (vs a != vs b) || !((vl a).length == (vl b).length) then false else (List.range (vl a).length).all (okSame (vl a) (vl b))
def φSame : List D -> Option D
 | [a,b]=>if a.isV = true /\ b.isV = true then some (.bool (sameB a b)) else none
 | _=>none
theorem bne_len (a b : Nat) : ((a : Int) != (b : Int)) = !(a == b):=by
 rw [Bool.eq_iff_iff];simp;omega
set_option maxHeartbeats 2000000 in
theorem ok54 [HasG Tryz.prog] : OkAt Tryz.prog 54 φSame:=by
 refine ok_of (l:=[]) .nil fn54 fun args r h=>?_
 unfold φSame at h
 split at h
 ·split at h
  ·rename_i a b hab
   injection h with h;subst h
   refine ⟨by simp,by simp [D.cl],fun H T=>?_⟩
   obtain ⟨ha,hb⟩:=hab
   obtain ⟨k1,i1,s1,n1,xs,rfl,z1,y1,hV1⟩:=isV_elim ha
   obtain ⟨k2,i2,s2,n2,ys,rfl,z2,y2,hV2⟩:=isV_elim hb
   have hS : sameB (mkV k1 i1 s1 n1 xs) (mkV k2 i2 s2 n2 ys) = if (k1 != k2) || (i1 != i2) || (s1 != s2) || !(xs.length == ys.length) then false else (List.range xs.length).all (okSame xs ys):=by simp only [sameB,vk_mk,vi_mk,vs_mk,vl_mk]
   rw [hS]
   have bl:=bne_len xs.length ys.length
   simp +contextual (maxSteps:=10000000) only [c54,mkV,bl,go_sem]
   intro q1 q2 q3 q4
   have hl : xs.length = ys.length:=by simpa using q4
   refine W_for (fun j s'=>s'.t 2 = .ptr H.length 0 /\ s'.t 3 = .ptr (H.length + 1) 0 /\ s'.t 5 = .int .i64 j /\ Ext (H ++ [.row [.int .i64 k1,.int .i64 i1,.str s1,sliceD n1 xs],.row [.int .i64 k2,.int .i64 i2,.str s2,sliceD n2 ys]]) s'.H /\ s'.T = T /\ j <= xs.length /\ (List.range j).all (okSame xs ys) = true) xs.length ⟨0,by simp [upd,argT,ext_self]⟩ (fun i s h=>h.2.2.2.2.2.1) ?_ (XL_mono _)
   rintro j ⟨t,B,T'⟩ ⟨h2,h3,h5,hE,rfl,hj,hc⟩
   simp only at h2 h3 h5 hE
   have b1:=hE.get (o:=H.length) (by simp;rfl)
   have b2:=hE.get (o:=H.length + 1) (by simp;rfl)
   by_cases ha : j < xs.length
   ·have d1 : decide ((j : Int) < xs.length) = true:=by simpa using ha
    obtain ⟨k3,i3,s3,n3,l3,e3,hs3,hx3,hV3,eL3⟩:=get_isV hV1 ha
    obtain ⟨k4,i4,s4,n4,l4,e4,hs4,hx4,hV4,eL4⟩:=get_isV hV2 (show j < ys.length by omega)
    have G : okSame xs ys j = ((k3 == k4) && (i3 == i4) && (s3 == s4) && !decide ((0 : Int) < l3.length) && !decide ((0 : Int) < l4.length)):=by
     simp only [okSame,e3,e4,sameEl,vk_mk,vi_mk,vs_mk,vl_mk]
    have bad : okSame xs ys j = false -> (List.range xs.length).all (okSame xs ys) = false:=fun h=>range_false_of h ha
    simp +contextual (maxSteps:=10000000) only [h2,h3,h5,d1,e3,e4,mkV,wrap_succ j (by omega),rdAt_E b1,rdAt_E b2,rdAt_Ea b1,rdAt_Ea b2,hE.ta,leaves_Ea hE.pre (ExtT.refl _),go_sem]
    simp only [List.all_append,hc,List.all_cons,List.all_nil,Bool.true_and,Bool.and_true,D.bool.injEq]
    rw [G] at bad ⊢
    clear G
    repeat' (first | apply And.intro | intro _)
    all_goals first | omega | grind
   ·have d1 : decide ((j : Int) < xs.length) = false:=by simpa using ha
    have hA : (List.range xs.length).all (okSame xs ys) = true:=by
     have : j = xs.length:=by omega
     subst this;exact hc
    simp +contextual (maxSteps:=10000000) only [h2,h3,h5,d1,mkV,hA,rdAt_E b1,rdAt_E b2,leaves_E hE.pre (ExtT.refl _),go_sem]
  ·cases h
 ·cases h
end GP
namespace GP
open Go Go.Proofs
set_option maxRecDepth 100000
structure Tr (p q r : Int) : Prop where
 le : p <= 0 -> q <= 0 -> r <= 0
 l1 : p < 0 -> q <= 0 -> r < 0
 l2 : p <= 0 -> q < 0 -> r < 0
 e1 : p = 0 -> r = q
 e2 : q = 0 -> r = p
end GP
namespace GP
open Go
variable {P : Program} [HasG P]
def XU (P : Program) [HasG P] (u : List FuncId) (l : Fs) (m : FsH) (e : FsE) : Pred:=fun f a H T Q=>if u.contains f = true then Snd P f a H T Q else XE l m e f a H T Q
theorem XU.X {u : List FuncId} {l : Fs} {m : FsH} {e : FsE} (k : Ok P l) (k' : OkH P m) (k'' : OkE P e) : ∀ f args H T Q Q',(∀ r H T,Q r H T -> Q' r H T) -> XU P u l m e f args H T Q -> Snd P f args H T Q':=by
 intro f args H T Q Q' hQ h
 unfold XU at h
 split at h
 ·exact Snd.mono _ _ _ _ _ _ hQ h
 ·exact XE.X k k' k'' f args H T Q Q' hQ h
def callQ (K : D -> S -> Prop) (t : Nat -> D) : Post:=fun r H T=>K r ⟨t,H,T⟩
theorem callK_fn (X : Pred) (args : List D) (K : D -> S -> Prop) (s : S) (f : FuncId) (first cap : List D) : callK X args K s (.fn f first cap) = X f (first ++ args ++ cap) s.H s.T (callQ K s.t):=id rfl
theorem callQ_eq (K : D -> S -> Prop) (t : Nat -> D) (r : D) (H : Hp) (T : Tk) : callQ K t r H T = K r ⟨t,H,T⟩:=id rfl
def orL (Q : Post) (H : Hp) (T : Tk) : Option D -> Prop
 | some r=>Q r H T
 | none=>False
theorem XL_eq (l : Fs) (f : FuncId) (args : List D) (H : Hp) (T : Tk) (Q : Post) : XL l f args H T Q = orL Q H T (look l f (D.eraseL args)):=by
 unfold XL orL
 cases look l f (D.eraseL args) <;> rfl
theorem orL_s (Q : Post) (H : Hp) (T : Tk) (r : D) : orL Q H T (some r) = Q r H T:=id rfl
attribute [go_sem] callK_fn callQ_eq XL_eq orL_s XE_eq orX_s orX_n orX_e orE_s lookE_nil lookE_cons inE_nil inE_cons lookH_nil lookH_cons orK_s orK_n
theorem Ext.set {H B : Hp} (h : Ext H B) {o : Nat} (ho : H.length <= o) (x : Ob) : Ext H (B.set o x):=by
 obtain ⟨L,rfl⟩:=h
 exact ⟨L.set (o - H.length) x,by rw [List.set_append_right _ _ ho]⟩
theorem leavesE_fz {r r0 : D} {H B : Hp} {T U : Tk} (o : Nat) (cs : List D) (ho : B[o]? = some (.row cs)) (hl : H.length <= o) (hr : Crs (r.fz o cs) r0) (h : Ext H B) (k : ExtT T U) : LeavesE r0 H T r B U:=by
 obtain ⟨L,e⟩:=h.set hl .dead;obtain ⟨M,rfl⟩:=k
 exact ⟨_,_,.step o cs ho (.refl _ _),hr,⟨H,L,e,SameH.refl H⟩,M,rfl⟩
@[go_sem] theorem fld_f (off n : Nat) (cs : List D) : fld false off n (.agg cs) = cs[off]?:=id rfl
@[go_sem] theorem fld_t (off n : Nat) (cs : List D) : fld true off n (.agg cs) = if off + n <= cs.length then some (.agg ((cs.take (off + n)).drop off)) else none:=id rfl
end GP
namespace Go.Proofs
open Go.Shelf Go.RowKit Go.Lib Go.Sort
shelf_lay_g SlLaysF0.n6 Slsf 6 at Tryz 248 as Tryz.sortVal
end Go.Proofs
namespace GP
open Go Go.Proofs
set_option maxRecDepth 100000
end GP
namespace GP
open Go Go.Proofs
set_option maxRecDepth 100000
def can (d : D) : D:=mkV (vk d) (vi d) (vs d) false []
theorem can_vk (d : D) : vk (can d) = vk d:=by simp [can,vk_mk]
theorem can_vi (d : D) : vi (can d) = vi d:=by simp [can,vi_mk]
theorem can_vs (d : D) : vs (can d) = vs d:=by simp [can,vs_mk]
theorem can_vl (d : D) : vl (can d) = []:=by simp [can,vl_mk]
theorem one1_can {d : D} (h : one1 d = true) : one1 (can d) = true:=by
 have hl : (vl d).length = 0:=plain_leaf h
 unfold one1 at h ⊢
 rw [can_vk,can_vi,can_vs,can_vl]
 rw [hl] at h;exact h
def insU : List D -> D -> List D
 | [],x=>[x]
 | z :: r,x=>if singleD z x < 0 then z :: insU r x else if singleD z x == 0 then z :: r else x :: z :: r
def bagR (xs : List D) : List D:=(xs.map can).foldl insU []
def badB (xs : List D) (v : D) : Bool:=(vk v == 0) || (vk v == 5) || (vk v != vk0 xs)
def bagV (xs : List D) : D × Int :=
 if xs.all formedV = false then (zeroV,1) else if xs.any (badB xs) then (zeroV,6) else
 if decide ((16 : Int) < (bagR xs).length) then (zeroV,13) else (mkV 5 0 [] false (bagR xs),0)
end GP
namespace GP
open Go Go.Proofs
set_option maxRecDepth 100000
def formI (k : Int) (s : List UInt8) (n : Int) : Bool :=
 if k == 1 then wordB s && (n == 0) else
 if k == 2 then (s == []) && decide (0 <= n) else
 if k == 3 then s.all (fun b=>pText b.toNat) && decide ((s.length : Int) <= 64) && (n == 0) else
 if k == 4 then (s == []) && decide (0 <= n) && decide (n <= 1099511627776) else
 if k == 5 then isSign s && (n == 0) else false
def φform : List D -> Option D
 | [.agg [.int .i64 k,.str s,.int .i64 n]]=>if s.length <= 2 ^ 60 then some (.bool (formI k s n)) else none
 | _=>none
theorem run_len (p : Int -> Bool) : ∀ (s : List UInt8),(((runN p s 0 : Nat) : Int) == (s.length : Int)) = s.all (fun b=>p b.toNat)
 | []=>rfl
 | c :: r=>by
  have ih:=run_len p r
  unfold runN at ih ⊢
  simp only [List.drop_zero] at ih ⊢
  rcases tf (p (c.toNat : Int)) with g | g
  ·rw [runL_cons c r g,List.all_cons,g,Bool.true_and,← ih]
   rw [Bool.eq_iff_iff,beq_iff_eq,beq_iff_eq]
   simp only [List.length_cons];omega
  ·have : runL p (c :: r) = 0:=by unfold runL;simp [g]
   rw [this,List.all_cons,g,Bool.false_and,beq_eq_false_iff_ne]
   simp only [List.length_cons];omega
theorem ok102L : OkAt Tryz.prog 102 φidxS:=okIdxS fn102
theorem ok47L : OkAt Tryz.prog 47 φcontS:=okContS fn47 ok102L
theorem cont_sign (s : List UInt8) : φcontS [.sl none (signsB.map .str),.str s] = some (.bool (isSign s)):=by
 have hL : isLs isTx (.sl none (signsB.map D.str)):=⟨false,signsB.map D.str,rfl,by decide,fun x hx=>by
  obtain ⟨y,hy,rfl⟩:=List.mem_map.1 hx
  have key : ∀ y ∈ signsB,y.length <= 2 ^ 47:=by decide
  exact ⟨y,rfl,key y hy⟩⟩
 simp only [φcontS]
 rw [if_pos hL]
 congr 2
 have e : elems (D.sl none (signsB.map D.str)) = signsB.map D.str:=rfl
 rw [e,List.any_map,isSign_12,signsB_12,List.any_append,Bool.or_comm,List.contains_eq_any_beq,List.contains_eq_any_beq]
 rfl
set_option maxHeartbeats 16000000 in
theorem ok166 : OkAt Tryz.prog 166 φform:=by
 refine ok_of (l:=[(144,φrun),(151,φsigns),(47,φcontS)]) (.cons ok144 (.cons ok151 (.cons ok47L .nil))) fn166 fun args r h=>?_
 unfold φform at h
 split at h
 ·rename_i k s n
  split at h
  ·rename_i hl
   injection h with h;subst h
   refine ⟨by simp,by simp [D.cl],fun H T=>?_⟩
   have p1 : φrun [.str s,.int .i64 0,.fn 199 [] []] = some (.int .i64 (runN pWord s 0 : Nat)):=by
    simp only [φrun];rw [show sorts 199 = some pWord from rfl];simp only;rw [if_pos ⟨by omega,by omega,by omega⟩];rfl
   have p2 : φrun [.str s,.int .i64 0,.fn 200 [] []] = some (.int .i64 (runN pText s 0 : Nat)):=by
    simp only [φrun];rw [show sorts 200 = some pText from rfl];simp only;rw [if_pos ⟨by omega,by omega,by omega⟩];rfl
   have r1:=run_len pWord s
   have r2:=run_len pText s
   have p3 : φsigns [] = some (.sl none (signsB.map .str)):=rfl
   have p4:=cont_sign s
   have eS : D.eraseL (signsB.map D.str) = signsB.map D.str:=rfl
   obtain ⟨SB,hSB⟩ : ∃ z,signsB.map D.str = z:=⟨_,rfl⟩
   rw [hSB] at p3 p4 eS
   unfold formI
   rcases tf (k == 1) with k1 | k1
   ·rw [if_pos k1]
    rcases tf (n == 0) with n0 | n0
    ·rw [n0,Bool.and_true]
     cases s with
     | nil =>
      have d1 : decide ((1 : Int) <= (([] : List UInt8).length : Nat)) = false:=rfl
      simp +contextual (maxSteps:=10000000) only [c166,k1,n0,d1,wordB,go_sem]
     | cons c r =>
      have d1 : decide ((1 : Int) <= ((c :: r).length : Nat)) = true:=by simp;omega
      have ix : ∀ q,ixs (.str (c :: r)) (.int q 0) = some (.int .u8 c.toNat):=fun q=>ixs_at (i:=0) rfl q
      have hwc:=wordB_cons c r
      have hal : pLet (c.toNat : Int) = true -> (pLet (c.toNat : Int) && r.all (fun b=>pWord b.toNat)) = (c :: r).all (fun b=>pWord b.toNat):=fun gl=>by
       rw [List.all_cons,pWord_let (c.toNat : Int),gl];simp
      obtain ⟨S,hS⟩ : ∃ S,c :: r = S:=⟨_,rfl⟩
      rw [hS] at p1 p2 p4 r1 r2 d1 ix hwc hal hl ⊢
      rcases tf (decide ((S.length : Int) <= 64)) with d2 | d2
      ·rcases tf (decide ((97 : Int) <= c.toNat)) with d3 | d3
       ·rcases tf (decide ((c.toNat : Int) <= 122)) with d4 | d4
        ·have gl : pLet (c.toNat : Int) = true:=by unfold pLet;rw [d3,d4];rfl
         have hw : wordB S = S.all (fun b=>pWord b.toNat):=by
          rw [hwc,hal gl,d2,Bool.and_true]
         rw [hw]
         simp +contextual (maxSteps:=10000000) only [c166,k1,n0,d1,d2,ix,d3,d4,p1,r1,go_sem]
        ·have hw : wordB S = false:=by rw [hwc];unfold pLet;rw [d3,d4];rfl
         rw [hw]
         simp +contextual (maxSteps:=10000000) only [c166,k1,n0,d1,d2,ix,d3,d4,go_sem]
       ·have hw : wordB S = false:=by rw [hwc];unfold pLet;rw [d3];rfl
        rw [hw]
        simp +contextual (maxSteps:=10000000) only [c166,k1,n0,d1,d2,ix,d3,go_sem]
      ·have hw : wordB S = false:=by rw [hwc,d2,Bool.and_false]
       rw [hw]
       simp +contextual (maxSteps:=10000000) only [c166,k1,n0,d1,d2,go_sem]
    ·rw [n0,Bool.and_false]
     simp +contextual (maxSteps:=10000000) only [c166,k1,n0,go_sem]
   rw [if_neg (by rw [k1];decide)]
   rcases tf (k == 2) with k2 | k2
   ·rw [if_pos k2]
    rcases tf (s == []) with s0 | s0 <;> rw [s0] <;> simp +contextual (maxSteps:=10000000) only [c166,k1,k2,s0,go_sem]
   rw [if_neg (by rw [k2];decide)]
   rcases tf (k == 3) with k3 | k3
   ·rw [if_pos k3]
    have k4 : (k == 4) = false:=by
     have : k = 3:=by simpa using k3
     subst this;rfl
    rcases tf (n == 0) with n0 | n0
    ·rw [n0,Bool.and_true]
     rcases tf (decide ((s.length : Int) <= 64)) with d2 | d2
     ·rw [d2,Bool.and_true]
      simp +contextual (maxSteps:=10000000) only [c166,k1,k2,k3,k4,n0,d2,p2,r2,go_sem]
     ·rw [d2,Bool.and_false]
      simp +contextual (maxSteps:=10000000) only [c166,k1,k2,k3,k4,n0,d2,go_sem]
    ·rw [n0,Bool.and_false]
     simp +contextual (maxSteps:=10000000) only [c166,k1,k2,k3,k4,n0,go_sem]
   rw [if_neg (by rw [k3];decide)]
   rcases tf (k == 4) with k4 | k4
   ·rw [if_pos k4]
    rcases tf (s == []) with s0 | s0
    ·rcases tf (decide (0 <= n)) with n0 | n0 <;> rw [s0,n0] <;> simp +contextual (maxSteps:=10000000) only [c166,k1,k2,k4,s0,n0,go_sem]
    ·rw [s0];simp +contextual (maxSteps:=10000000) only [c166,k1,k2,k4,s0,go_sem]
   rw [if_neg (by rw [k4];decide)]
   rcases tf (k == 5) with k5 | k5
   ·rw [if_pos k5]
    rcases tf (n == 0) with n0 | n0
    ·rw [n0,Bool.and_true];simp +contextual (maxSteps:=10000000) only [c166,k1,k2,k3,k4,k5,n0,p3,eS,p4,go_sem]
    ·rw [n0,Bool.and_false];simp +contextual (maxSteps:=10000000) only [c166,k1,k2,k3,k4,k5,n0,go_sem]
   ·rw [if_neg (by rw [k5];decide)]
    simp +contextual (maxSteps:=10000000) only [c166,k1,k2,k3,k4,k5,go_sem]
  ·cases h
 ·cases h
theorem all_no' {α : Type} {p : α -> Bool} {l : List α} {j : Nat} {x : α} (hx : l[j]? = some x) (hp : p x = false) : l.all p = false :=
 List.all_eq_false.2 ⟨x,List.mem_of_getElem? hx,by simp [hp]⟩
theorem all_nx' {α : Type} {p : α -> Bool} {l : List α} {j : Nat} {x : α} (hx : l[j]? = some x) (h : (l.take j).all p = true) (hp : p x = true) : (l.take (j + 1)).all p = true:=by
 rw [List.take_add_one,hx];simp [h,hp]
set_option maxHeartbeats 16000000 in
theorem ok57 : OkAt Tryz.prog 57 φform:=by
 refine ok_of (l:=[(109,φword),(110,φsign)]) (.cons ok109 (.cons ok110 .nil)) fn57 fun args r h=>?_
 unfold φform at h
 split at h
 ·rename_i k s n
  split at h
  ·rename_i hl
   injection h with h;subst h
   refine ⟨by simp,by simp [D.cl],fun H T=>?_⟩
   have p1 : φword [.str s] = some (.bool (wordB s)):=by simp only [φword];rw [if_pos hl]
   have p2 : φsign [.str s] = some (.bool (isSign s)):=rfl
   unfold formI
   rcases tf (k == 1) with k1 | k1
   ·rw [if_pos k1]
    rcases tf (wordB s) with w | w <;> rw [w] <;> rw [w] at p1 <;> simp +contextual (maxSteps:=10000000) only [c57,k1,p1,go_sem]
   rw [if_neg (by rw [k1];decide)]
   rcases tf (k == 2) with k2 | k2
   ·rw [if_pos k2]
    rcases tf (s == []) with s0 | s0 <;> rw [s0] <;> simp +contextual (maxSteps:=10000000) only [c57,k1,k2,s0,go_sem]
   rw [if_neg (by rw [k2];decide)]
   rcases tf (k == 3) with k3 | k3
   ·rw [if_pos k3]
    simp +contextual (maxSteps:=10000000) only [c57,k1,k2,k3,go_sem]
    refine W_for (fun i s'=>s'.t 1 = .ptr H.length 0 /\ s'.t 3 = .int .i64 (i : Nat) /\ s'.H = H ++ [.row [.int .i64 k,.str s,.int .i64 n]] /\ s'.T = T /\ i <= s.length /\ (s.take i).all (fun b=>pText b.toNat) = true) s.length ⟨0,by simp [upd,argT]⟩ (fun i s h=>h.2.2.2.2.1) ?_ (XL_mono _)
    rintro i ⟨t,B,T'⟩ ⟨r1,r3,rfl,rfl,hi,hc⟩
    simp only at r1 r3
    by_cases hlt : i < s.length
    ·have d1 : decide (((i : Nat) : Int) < s.length) = true:=by simp only [decide_eq_true_eq];omega
     have ex : s[i]? = some s[i]:=by simp [hlt]
     obtain ⟨b,hb⟩ : ∃ b,s[i] = b:=⟨_,rfl⟩
     rw [hb] at ex
     have ix:=fun q=>ixs_at ex q
     have no:=fun hp=>all_no' (p:=fun b : UInt8=>pText b.toNat) ex hp
     have nx:=fun hp=>all_nx' (p:=fun b : UInt8=>pText b.toNat) ex hc hp
     have pT : pText (b.toNat : Int) = (decide ((32 : Int) <= b.toNat) && decide ((b.toNat : Int) <= 126)):=rfl
     by_cases q1 : (b.toNat : Int) < 32
     ·have g3 : decide ((b.toNat : Int) < 32) = true:=by simpa using q1
      have no:=no (by rw [pT];simp only [Bool.and_eq_false_iff,decide_eq_false_iff_not];omega)
      rw [no]
      simp +contextual (maxSteps:=10000000) only [r1,r3,d1,ix,g3,go_sem]
     have g3 : decide ((b.toNat : Int) < 32) = false:=by simpa using q1
     by_cases q2 : (126 : Int) < b.toNat
     ·have g5 : decide ((126 : Int) < b.toNat) = true:=by simpa using q2
      have no:=no (by rw [pT];simp only [Bool.and_eq_false_iff,decide_eq_false_iff_not];omega)
      rw [no]
      simp +contextual (maxSteps:=10000000) only [r1,r3,d1,ix,g3,g5,go_sem]
     have g5 : decide ((126 : Int) < b.toNat) = false:=by simpa using q2
     have nx:=nx (by rw [pT];simp only [Bool.and_eq_true,decide_eq_true_eq];omega)
     simp +contextual (maxSteps:=10000000) only [r1,r3,d1,ix,g3,g5,wrap_su i (by omega),go_sem]
     exact ⟨by omega,nx⟩
    ·have d1 : decide (((i : Nat) : Int) < s.length) = false:=by simp only [decide_eq_false_iff_not];omega
     have ei : i = s.length:=by omega
     rw [ei,List.take_length] at hc
     rw [hc,Bool.true_and]
     rcases tf (decide ((s.length : Int) <= 64)) with d2 | d2 <;> rw [d2] <;> simp +contextual (maxSteps:=10000000) only [r1,r3,d1,d2,go_sem]
   rw [if_neg (by rw [k3];decide)]
   rcases tf (k == 4) with k4 | k4
   ·rw [if_pos k4]
    rcases tf (s == []) with s0 | s0
    ·rcases tf (decide (0 <= n)) with n0 | n0 <;> rw [s0,n0] <;> simp +contextual (maxSteps:=10000000) only [c57,k1,k2,k3,k4,s0,n0,go_sem]
    ·rw [s0];simp +contextual (maxSteps:=10000000) only [c57,k1,k2,k3,k4,s0,go_sem]
   rw [if_neg (by rw [k4];decide)]
   rcases tf (k == 5) with k5 | k5
   ·rw [if_pos k5]
    rcases tf (isSign s) with w | w <;> rw [w] <;> rw [w] at p2 <;> simp +contextual (maxSteps:=10000000) only [c57,k1,k2,k3,k4,k5,p2,go_sem]
   ·rw [if_neg (by rw [k5];decide)]
    simp +contextual (maxSteps:=10000000) only [c57,k1,k2,k3,k4,k5,go_sem]
  ·cases h
 ·cases h
end GP
namespace GP
open Go Go.Proofs
set_option maxRecDepth 100000
def tk : D -> Int
 | .agg [.int .i64 k,.str _,.int .i64 _]=>k
 | _=>0
def ts : D -> List UInt8
 | .agg [.int .i64 _,.str s,.int .i64 _]=>s
 | _=>[]
def tn : D -> Int
 | .agg [.int .i64 _,.str _,.int .i64 n]=>n
 | _=>0
theorem ts_mk (k : Int) (s : List UInt8) (n : Int) : ts (mkT k s n) = s:=rfl
def formT (t : D) : Bool:=formI (tk t) (ts t) (tn t)
def zT : D:=mkT 0 [] 0
def nowP (toks : List D) (a : Nat) (e : Int) : D:=if e != 0 then zT else match toks[a]? with
 | some t=>if formT t then t else zT
 | none=>zT
section
variable {H : Hp} {p : Nat}
theorem cu_get0 (hp : p < H.length) (X : List D) : (H.set p (.row X))[p]? = some (.row X):=List.getElem?_set_self hp
theorem rd_cu0 (hp : p < H.length) (X : List D) (off : Nat) : rdAt (H.set p (.row X)) (.ptr p off) = some (X.drop off):=rdAt_E (cu_get0 hp X) off
theorem st_cu0 {K : D -> S -> Prop} (hp : p < H.length) (X : List D) (t : Nat -> D) (T : Tk) (n off : Nat) (v : D) : storeK n K ⟨t,H.set p (.row X),T⟩ (.ptr p off) v = (v.okc = true /\ v.cells.length = n /\ off + n <= X.length /\ K .top ⟨t,H.set p (.row (X.take off ++ v.cells ++ X.drop (off + n))),T⟩):=by
 rw [storeK_E (cu_get0 hp X),List.set_set]
variable {n : Bool} {xs : List D}
def cuR (H : Hp) (p : Nat) (l : D) (L : Hp) : Option (D × Nat × Int) -> Option (D × Hp)
 | some (r,a,e)=>some (r,H.set p (.row [l,.int .i64 ((a : Nat) : Int),.int .i64 e]) ++ L)
 | none=>none
@[go_sem] theorem cuR_s (H : Hp) (p : Nat) (l : D) (L : Hp) (r : D) (a : Nat) (e : Int) : cuR H p l L (some (r,a,e)) = some (r,H.set p (.row [l,.int .i64 ((a : Nat) : Int),.int .i64 e]) ++ L):=id rfl
end
@[go_sem] theorem rd_own (H : Hp) (p : Nat) (x : Ob) (L : Hp) (n off : Nat) : rdAt (H.set p x ++ L) (.ptr (H.length + n) off) = rdAt L (.ptr n off):=by
 have:=rdAt_ptr_app (H.set p x) L n off
 rwa [List.length_set] at this
@[go_sem] theorem rd_own0 (H : Hp) (p : Nat) (x : Ob) (L : Hp) (off : Nat) : rdAt (H.set p x ++ L) (.ptr H.length off) = rdAt L (.ptr 0 off):=rd_own H p x L 0 off
@[go_sem] theorem st_own {K : D -> S -> Prop} (t : Nat -> D) (T : Tk) (H : Hp) (p : Nat) (x : Ob) (L : Hp) (n i off : Nat) (v : D) : storeK n K ⟨t,H.set p x ++ L,T⟩ (.ptr (H.length + i) off) v = putK K t (H.set p x) T (putRow n off v L i):=by
 have:=storeK_ptr (K:=K) t T (H.set p x) L n i off v
 rwa [List.length_set] at this
@[go_sem] theorem st_own0 {K : D -> S -> Prop} (t : Nat -> D) (T : Tk) (H : Hp) (p : Nat) (x : Ob) (L : Hp) (n off : Nat) (v : D) : storeK n K ⟨t,H.set p x ++ L,T⟩ (.ptr H.length off) v = putK K t (H.set p x) T (putRow n off v L 0):=st_own t T H p x L n 0 off v
@[go_sem] theorem nilcD_ptr (o f : Nat) : nilcD (.ptr o f) = some (.ptr o f):=id rfl
attribute [go_sem] List.length_set
end GP
namespace GP
open Go Go.Proofs
set_option maxRecDepth 100000
abbrev St:=Nat × Int
def nowS (toks : List D) (st : St) : D:=nowP toks st.1 st.2
def isP (toks : List D) (st : St) (s : List UInt8) : Bool:=((tk (nowS toks st) == 1) || (tk (nowS toks st) == 5)) && (ts (nowS toks st) == s)
def failP (at_ : Nat) (err : Int) (st : St) : St:=if st.2 == 0 then (at_,err) else st
def mustP (toks : List D) (s : List UInt8) (st : St) : St:=if isP toks st s then (st.1 + 1,st.2) else failP st.1 2 st
theorem nowP_lt {toks : List D} {a : Nat} {e : Int} (h : tk (nowP toks a e) ≠ 0) : a < toks.length /\ e = 0:=by
 unfold nowP at h
 split at h
 ·exact absurd rfl h
 ·rename_i he
  refine ⟨?_,by simpa using he⟩
  split at h
  ·rename_i t ht
   rcases Nat.lt_or_ge a toks.length with h' | h'
   ·exact h'
   ·rw [List.getElem?_eq_none h'] at ht;cases ht
  ·exact absurd rfl h
theorem isP_lt {toks : List D} {st : St} {s : List UInt8} (h : isP toks st s = true) : st.1 < toks.length /\ st.2 = 0:=by
 unfold isP at h
 simp only [Bool.and_eq_true,Bool.or_eq_true,beq_iff_eq] at h
 refine nowP_lt (toks:=toks) (a:=st.1) (e:=st.2) ?_
 unfold nowS at h
 omega
end GP
namespace GP
open Go Go.Proofs
set_option maxRecDepth 100000
def kindP (toks : List D) (k : Int) (st : St) : D × St:=if tk (nowS toks st) != k then (zT,failP st.1 2 st) else (nowS toks st,(st.1 + 1,st.2))
def keptW : List (List UInt8):=[[102,97,99,116],[116,114,117,116,104],[110,117,109,98,101,114],[116,101,120,116],[116,105,109,101],[98,97,103],[117,115,101],[112,111,108,105,99,121],[98,121],[102,111,114],[112,101,114,109,105,116],[100,101,110,121],[105,102],[100,117,116,121],[97,100,118,105,99,101],[116,114,117,101],[102,97,108,115,101],[110,111,119],[111,114],[97,110,100],[110,111,116],[105,110],[104,97,115],[114,111,108,101],[115,105,122,101],[115,117,98,106,101,99,116],[114,101,115,111,117,114,99,101],[97,99,116,105,111,110],[101,110,118]]
def keptB (s : List UInt8) : Bool:=keptW.any (fun x=>s == x)
def φkeptL : List D -> Option D
 | []=>some (.sl none (keptW.map .str))
 | _=>none
theorem ok48 : OkAt Tryz.prog 48 φkeptL:=by
 refine ok_of (l:=[]) .nil fn48 fun args r h=>?_
 unfold φkeptL at h
 split at h
 ·injection h with h;subst h
  refine ⟨by simp,by decide,fun H T=>?_⟩
  simp +contextual (maxSteps:=10000000) only [c48,go_sem]
  first | rfl | simp only [keptW,List.map_cons,List.map_nil,D.erase,D.eraseL]
 ·cases h
theorem ok16 : OkAt Tryz.prog 16 φkeptL:=by
 refine ok_of (l:=[]) .nil fn16 fun args r h=>?_
 unfold φkeptL at h
 split at h
 ·injection h with h;subst h
  refine ⟨by simp,by decide,fun H T=>?_⟩
  simp +contextual (maxSteps:=10000000) only [c16,go_sem]
  first | rfl | simp only [keptW,List.map_cons,List.map_nil,D.erase,D.eraseL]
 ·cases h
theorem cont_kept (s : List UInt8) : φcontS [.sl none (keptW.map .str),.str s] = some (.bool (keptB s)):=by
 have hL : isLs isTx (.sl none (keptW.map D.str)):=⟨false,keptW.map D.str,rfl,by decide,fun x hx=>by
  obtain ⟨y,hy,rfl⟩:=List.mem_map.1 hx
  have key : ∀ y ∈ keptW,y.length <= 2 ^ 47:=by decide
  exact ⟨y,rfl,key y hy⟩⟩
 simp only [φcontS]
 rw [if_pos hL]
 congr 2
def φkept : List D -> Option D
 | [.str s]=>some (.bool (keptB s))
 | _=>none
theorem ok17 : OkAt Tryz.prog 17 φkept:=by
 refine ok_of (l:=[(48,φkeptL),(47,φcontS)]) (.cons ok48 (.cons ok47L .nil)) fn17 fun args r h=>?_
 unfold φkept at h
 split at h
 ·rename_i s
  injection h with h;subst h
  have p1 : φkeptL [] = some (.sl none (keptW.map .str)):=rfl
  have p2:=cont_kept s
  have e1 : D.eraseL [.sl none (keptW.map D.str),.str s] = [.sl none (keptW.map D.str),.str s]:=by simp only [D.eraseL,D.erase,eraseL_id (l:=keptW.map D.str) (fun x hx=>by obtain ⟨y,_,rfl⟩:=List.mem_map.1 hx;rfl)]
  obtain ⟨ks,hk⟩ : ∃ ks,keptW.map D.str = ks:=⟨_,rfl⟩
  rw [hk] at p1 p2 e1
  refine ⟨by simp,by simp [D.cl],fun H T=>?_⟩
  simp +contextual (maxSteps:=10000000) only [c17,p1,p2,e1,go_sem]
 ·cases h
def nameP (toks : List D) (st : St) : List UInt8 × St:=if (tk (nowS toks st) != 1) || keptB (ts (nowS toks st)) then ([],failP st.1 2 st) else (ts (nowS toks st),(st.1 + 1,st.2))
def isStrB : D -> Bool
 | .str _=>true
 | _=>false
def strB : D -> List UInt8
 | .str s=>s
 | _=>[]
def firstP (toks : List D) (st : St) : List (List UInt8) -> Option (List UInt8)
 | []=>none
 | w :: r=>if isP toks st w then some w else firstP toks st r
def oneP (toks : List D) (ws : List (List UInt8)) (st : St) : List UInt8 × St:=match firstP toks st ws with
 | some w=>(w,(st.1 + 1,st.2))
 | none=>([],failP st.1 2 st)
theorem firstP_none {toks : List D} {st : St} : ∀ {ws : List (List UInt8)},(∀ w ∈ ws,isP toks st w = false) -> firstP toks st ws = none
 | [],_=>rfl
 | w :: r,h=>by
  simp only [firstP];rw [if_neg (by rw [h w (by simp)];decide)]
  exact firstP_none fun x hx=>h x (by simp [hx])
def whoW : List (List UInt8):=[[115,117,98,106,101,99,116],[114,101,115,111,117,114,99,101],[97,99,116,105,111,110],[101,110,118]]
def attrP (toks : List D) (st : St) : List UInt8 × List UInt8 × St :=
 ((oneP toks whoW st).1,(nameP toks (mustP toks [46] (oneP toks whoW st).2)).1,(nameP toks (mustP toks [46] (oneP toks whoW st).2)).2)
end GP
