import Derived.Conc.EntryLaws
import Derived.Lib.Bytealg
import Derived.Test.YtjpbliffonimgaaProg
import Derived.Test.YtjpbliffonimgaaM5
set_option linter.unusedSimpArgs false
set_option linter.unnecessarySimpa false
set_option linter.unusedSectionVars false
namespace GP
open Go Go.Proofs
open Rd O
set_option maxRecDepth 100000
def c40 : C :=
  (.seq (.reg [⟨(some 4), none, .mv (Ki 0)⟩])
  (.seq (.seq (.reg [⟨(some 5), none, .mv (Ki 0)⟩])
  (.block 0
  (.loop
  (.seq (.seq (.reg [Im 6 5, Im 7 0, ⟨(some 8), none, .lens (t 7)⟩, ⟨(some 9), none, .bin .lss (t 6) (t 8)⟩, Im 10 9, Jm 11 10 true 5, Jm 12 10 true 1, ⟨(some 13), (some (10, true)), .lens (t 12)⟩, ⟨(some 14), (some (10, true)), .bin .lss (t 11) (t 13)⟩, ⟨(some 15), none, .pick (t 10) (t 14) (k (.bool false))⟩])
  (.cond (t 15)
  .skip
  (.exit 0)))
  (.seq (.block 1
  (.seq (.seq (.draw 0 [(Im 18 0, []), (Im 19 5, []), (⟨(some 20), none, .idxs (t 18) (t 19)⟩, []), (Im 21 1, []), (Im 22 5, []), (⟨(some 23), none, .idxs (t 21) (t 22)⟩, []), (⟨(some 24), none, .bin .lss (t 20) (t 23)⟩, [])])
  (.cond (t 24)
  (.seq (.reg [⟨(some 4), none, .mv (k (.int .i64 (-1)))⟩])
  .ret)
  .skip))
  (.seq (.draw 0 [(Im 25 0, []), (Im 26 5, []), (⟨(some 27), none, .idxs (t 25) (t 26)⟩, []), (Im 28 1, []), (Im 29 5, []), (⟨(some 30), none, .idxs (t 28) (t 29)⟩, []), (⟨(some 31), none, .bin .gtr (t 27) (t 30)⟩, [])])
  (.cond (t 31)
  (.seq (.reg [⟨(some 4), none, .mv (Ki 1)⟩])
  .ret)
  .skip))))
  (.reg [Im 16 5, ⟨(some 17), none, .bin .add (t 16) (Ki 1)⟩, Im 5 17]))))))
  (.seq (.seq (.reg [Im 32 0, ⟨(some 33), none, .lens (t 32)⟩, Im 34 1, ⟨(some 35), none, .lens (t 34)⟩, ⟨(some 36), none, .bin .lss (t 33) (t 35)⟩])
  (.cond (t 36)
  (.seq (.reg [⟨(some 4), none, .mv (k (.int .i64 (-1)))⟩])
  .ret)
  .skip))
  (.seq (.seq (.reg [Im 37 0, ⟨(some 38), none, .lens (t 37)⟩, Im 39 1, ⟨(some 40), none, .lens (t 39)⟩, ⟨(some 41), none, .bin .gtr (t 38) (t 40)⟩])
  (.cond (t 41)
  (.seq (.reg [⟨(some 4), none, .mv (Ki 1)⟩])
  .ret)
  .skip))
  (.seq (.reg [⟨(some 4), none, .mv (Ki 0)⟩])
  .ret)))))
theorem fn40 : Fn Go.Proofs.Try.prog 40 42 [.inl 4] c40 :=
  ⟨⟨_, _, Go.Proofs.Try.func40, rfl, by kernel_rfl, Go.Proofs.Try.ntmps40, by kernel_rfl, ⟨fun f => imp.contains f, false, fun _ => false, false⟩, by kernel_rfl⟩⟩
def c49 : C :=
  (.seq (.reg [⟨(some 4), none, .mv (k (.bool false))⟩])
  (.seq (.seq (.reg [⟨(some 5), none, .mv (Ki 0)⟩])
  (.block 0
  (.loop
  (.seq (.seq (.reg [Im 7 5, Im 8 0, Iz 9 8, ⟨(some 10), none, .bin .lss (t 7) (t 9)⟩, Im 11 10, Jm 12 11 true 5, ⟨(some 13), (some (11, true)), .bin .lss (t 12) (Ki 100)⟩, ⟨(some 14), none, .pick (t 11) (t 13) (k (.bool false))⟩])
  (.cond (t 14)
  .skip
  (.exit 0)))
  (.seq (.block 1
  (.seq (.seq (.reg [Im 17 0, Im 18 5, ⟨(some 19), none, .iaddr 4 (t 17) (t 18)⟩, If 20 2 19, Il 21 20, ⟨(some 22), none, .lens (t 21)⟩, ⟨(some 23), none, .bin .gtr (t 22) (Ki 200)⟩, Im 24 23, Jm 25 24 false 0, Jm 26 24 false 5, ⟨(some 27), (some (24, false)), .iaddr 4 (t 25) (t 26)⟩, Jf 28 24 false 3 27, Jl 29 24 false 28, ⟨(some 30), (some (24, false)), .len (t 29)⟩, ⟨(some 31), (some (24, false)), .bin .gtr (t 30) (Ki 30)⟩, ⟨(some 32), none, .pick (t 24) (k (.bool true)) (t 31)⟩])
  (.cond (t 32)
  (.seq (.reg [⟨(some 4), none, .mv (k (.bool false))⟩])
  .ret)
  .skip))
  (.seq (.reg [⟨(some 6), none, .mv (Ki 0)⟩])
  (.block 2
  (.loop
  (.seq (.seq (.reg [Im 33 6, Im 34 0, Im 35 5, ⟨(some 36), none, .iaddr 4 (t 34) (t 35)⟩, If 37 3 36, Il 38 37, Iz 39 38, ⟨(some 40), none, .bin .lss (t 33) (t 39)⟩])
  (.cond (t 40)
  .skip
  (.exit 2)))
  (.seq (.block 3
  (.seq (.reg [Im 43 0, Im 44 5, ⟨(some 45), none, .iaddr 4 (t 43) (t 44)⟩, If 46 3 45, Il 47 46, Im 48 6, ⟨(some 49), none, .iaddr 4 (t 47) (t 48)⟩, If 50 2 49, Il 51 50, ⟨(some 52), none, .lens (t 51)⟩, ⟨(some 53), none, .bin .gtr (t 52) (Ki 200)⟩, Im 54 53, Jm 55 54 false 0, Jm 56 54 false 5, ⟨(some 57), (some (54, false)), .iaddr 4 (t 55) (t 56)⟩, Jf 58 54 false 3 57, Jl 59 54 false 58, Jm 60 54 false 6, ⟨(some 61), (some (54, false)), .iaddr 4 (t 59) (t 60)⟩, Jf 62 54 false 3 61, Jl 63 54 false 62, ⟨(some 64), (some (54, false)), .len (t 63)⟩, ⟨(some 65), (some (54, false)), .bin .gtr (t 64) (Ki 0)⟩, ⟨(some 66), none, .pick (t 54) (k (.bool true)) (t 65)⟩])
  (.cond (t 66)
  (.seq (.reg [⟨(some 4), none, .mv (k (.bool false))⟩])
  .ret)
  .skip)))
  (.reg [Im 41 6, ⟨(some 42), none, .bin .add (t 41) (Ki 1)⟩, Im 6 42]))))))))
  (.reg [Im 15 5, ⟨(some 16), none, .bin .add (t 15) (Ki 1)⟩, Im 5 16]))))))
  (.seq (.reg [Im 67 0, Iz 68 67, Im 69 1, ⟨(some 70), none, .bin .leq (t 68) (t 69)⟩, Im 4 70])
  .ret)))
theorem fn49 : Fn Go.Proofs.Try.prog 49 71 [.inl 4] c49 :=
  ⟨⟨_, _, Go.Proofs.Try.func49, rfl, by kernel_rfl, Go.Proofs.Try.ntmps49, by kernel_rfl, ⟨fun f => imp.contains f, false, fun _ => false, false⟩, by kernel_rfl⟩⟩
def c53 : C :=
  (.seq (.reg [⟨(some 1), none, .box (t 0)⟩, ⟨(some 2), none, .mv (k (.bool false))⟩])
  (.seq (.seq (.reg [If 5 0 1, Il 6 5, ⟨(some 7), none, .bin .neq (t 6) (Ki 5)⟩])
  (.cond (t 7)
  (.seq (.reg [Ia 8 4 1, Ip 9 91 [(t 8)], Im 2 9])
  .ret)
  .skip))
  (.seq (.seq (.reg [If 10 3 1, Il 11 10, Iz 12 11, ⟨(some 13), none, .mv (Ki 0)⟩])
  (.block 0
  (.loop
  (.seq (.reg [⟨(some 14), none, .bin .lss (t 13) (t 12)⟩])
  (.seq (.cond (t 14)
  .skip
  (.exit 0))
  (.seq (.block 1
  (.seq (.reg [Im 15 13, ⟨(some 16), none, .iaddr 4 (t 11) (t 13)⟩, Ia 17 4 16, ⟨(some 4), none, .alloc [(.int .i64 0), (.int .i64 0), (.str []), .nils]⟩, Im 3 15, Is 4 4 17])
  (.seq (.draw 0 [(Ia 18 4 4, []), (Ip 19 91 [(t 18)], []), (⟨(some 20), none, .un .not (t 19)⟩, []), (Im 21 20, []), (Jf 22 21 false 0 4, []), (Jl 23 21 false 22, []), (⟨(some 24), (some (21, false)), .bin .eql (t 23) (Ki 0)⟩, []), (⟨(some 25), none, .pick (t 21) (k (.bool true)) (t 24)⟩, []), (Im 26 25, []), (Jf 27 26 false 0 4, []), (Jl 28 26 false 27, []), (Jf 29 26 false 3 1, []), (Jl 30 26 false 29, []), (⟨(some 31), (some (26, false)), .iaddr 4 (t 30) (Ki 0)⟩, []), (Jf 32 26 false 0 31, []), (Jl 33 26 false 32, []), (⟨(some 34), (some (26, false)), .bin .neq (t 28) (t 33)⟩, []), (⟨(some 35), none, .pick (t 26) (k (.bool true)) (t 34)⟩, []), (Im 36 35, []), (Jm 37 36 false 3, []), (⟨(some 38), (some (36, false)), .bin .gtr (t 37) (Ki 0)⟩, []), (Jm 39 36 false 38, []), (Jf 40 39 true 3 1, []), (Jl 41 39 true 40, []), (Jm 42 39 true 3, []), (⟨(some 43), (some (39, true)), .bin .sub (t 42) (Ki 1)⟩, []), (⟨(some 44), (some (39, true)), .iaddr 4 (t 41) (t 43)⟩, []), (⟨(some 45), (some (39, true)), .load true 4 (t 44)⟩, []), (⟨(some 46), (some (39, true)), .load true 4 (t 4)⟩, []), (⟨(some 47), (some (39, true)), .pcall (k (.fn 86 [] [])) [(t 45), (t 46)]⟩, []), (⟨(some 48), (some (39, true)), .bin .geq (t 47) (Ki 0)⟩, []), (⟨(some 49), (some (36, false)), .pick (t 39) (t 48) (k (.bool false))⟩, []), (⟨(some 50), none, .pick (t 36) (k (.bool true)) (t 49)⟩, [])])
  (.cond (t 50)
  (.seq (.reg [⟨(some 2), none, .mv (k (.bool false))⟩])
  .ret)
  .skip))))
  (.reg [⟨(some 51), none, .bin .add (t 13) (Ki 1)⟩, Im 13 51])))))))
  (.seq (.reg [If 52 1 1, Il 53 52, ⟨(some 54), none, .bin .eql (t 53) (Ki 0)⟩, Im 55 54, Jf 56 55 true 2 1, Jl 57 55 true 56, ⟨(some 58), (some (55, true)), .bin .eql (t 57) (k (.str []))⟩, ⟨(some 59), none, .pick (t 55) (t 58) (k (.bool false))⟩, Im 60 59, Jf 61 60 true 3 1, Jl 62 60 true 61, ⟨(some 63), (some (60, true)), .len (t 62)⟩, ⟨(some 64), (some (60, true)), .bin .leq (t 63) (Ki 16)⟩, ⟨(some 65), none, .pick (t 60) (t 64) (k (.bool false))⟩, Im 2 65])
  .ret))))
theorem fn53 : Fn Go.Proofs.Try.prog 53 66 [.inl 2] c53 :=
  ⟨⟨_, _, Go.Proofs.Try.func53, rfl, by kernel_rfl, Go.Proofs.Try.ntmps53, by kernel_rfl, ⟨fun f => imp.contains f, false, fun _ => false, false⟩, by kernel_rfl⟩⟩
def c86 : C :=
  (.seq (.reg [⟨(some 2), none, .box (t 0)⟩, ⟨(some 3), none, .box (t 1)⟩, ⟨(some 4), none, .mv (Ki 0)⟩])
  (.seq (.seq (.draw 0 [(If 6 0 2, []), (Il 7 6, []), (If 8 0 3, []), (Il 9 8, []), (Ip 10 122 [(t 7), (t 9)], []), (If 11 1 2, []), (Il 12 11, []), (If 13 1 3, []), (Il 14 13, []), (Ip 15 123 [(t 12), (t 14)], []), (If 16 2 2, []), (Il 17 16, []), (If 18 2 3, []), (Il 19 18, []), (Ip 20 101 [(t 17), (t 19)], []), (⟨(some 21), none, .bslq 1 [(t 10), (t 15), (t 20)]⟩, []), (Ip 22 100 [(t 21)], []), (Im 5 22, [])])
  (.seq (.reg [Im 23 5, ⟨(some 24), none, .bin .neq (t 23) (Ki 0)⟩])
  (.cond (t 24)
  (.seq (.reg [Im 25 5, Im 4 25])
  .ret)
  .skip)))
  (.seq (.reg [If 26 3 2, Il 27 26, If 28 3 3, Il 29 28, Ip 30 124 [(t 27), (t 29), (k (.fn 86 [] []))], Im 4 30])
  .ret)))
theorem fn86 : Fn Go.Proofs.Try.prog 86 31 [.inl 4] c86 :=
  ⟨⟨_, _, Go.Proofs.Try.func86, rfl, by kernel_rfl, Go.Proofs.Try.ntmps86, by kernel_rfl, ⟨fun f => imp.contains f, false, fun _ => false, false⟩, by kernel_rfl⟩⟩
def c122 : C :=
  (.seq (.reg [⟨(some 4), none, .mv (Ki 0)⟩])
  (.seq (.reg [Im 7 0, Ip 8 147 [(t 7)], Im 5 8])
  (.seq (.reg [Im 9 1, Ip 10 147 [(t 9)], Im 6 10])
  (.seq (.seq (.reg [Im 11 5])
  (.cond (t 11)
  (.seq (.seq (.reg [Im 12 6])
  (.cond (t 12)
  (.seq (.reg [⟨(some 4), none, .mv (Ki 0)⟩])
  .ret)
  .skip))
  (.seq (.reg [⟨(some 4), none, .mv (k (.int .i64 (-1)))⟩])
  .ret))
  .skip))
  (.seq (.seq (.reg [Im 13 6])
  (.cond (t 13)
  (.seq (.reg [⟨(some 4), none, .mv (Ki 1)⟩])
  .ret)
  .skip))
  (.seq (.seq (.reg [Im 14 0, Im 15 1, ⟨(some 16), none, .bin .lss (t 14) (t 15)⟩])
  (.cond (t 16)
  (.seq (.reg [⟨(some 4), none, .mv (k (.int .i64 (-1)))⟩])
  .ret)
  .skip))
  (.seq (.seq (.reg [Im 17 0, Im 18 1, ⟨(some 19), none, .bin .gtr (t 17) (t 18)⟩])
  (.cond (t 19)
  (.seq (.reg [⟨(some 4), none, .mv (Ki 1)⟩])
  .ret)
  .skip))
  (.seq (.reg [⟨(some 4), none, .mv (Ki 0)⟩])
  .ret))))))))
theorem fn122 : Fn Go.Proofs.Try.prog 122 20 [.inl 4] c122 :=
  ⟨⟨_, _, Go.Proofs.Try.func122, rfl, by kernel_rfl, Go.Proofs.Try.ntmps122, by kernel_rfl, ⟨fun f => imp.contains f, false, fun _ => false, false⟩, by kernel_rfl⟩⟩
def c125 : C :=
  (.seq (.reg [⟨(some 4), none, .mv (Ki 0)⟩])
  (.seq (.seq (.reg [Im 5 0, Im 6 1, ⟨(some 7), none, .bin .lss (t 5) (t 6)⟩])
  (.cond (t 7)
  (.seq (.reg [⟨(some 4), none, .mv (k (.int .i64 (-1)))⟩])
  .ret)
  .skip))
  (.seq (.seq (.reg [Im 8 0, Im 9 1, ⟨(some 10), none, .bin .gtr (t 8) (t 9)⟩])
  (.cond (t 10)
  (.seq (.reg [⟨(some 4), none, .mv (Ki 1)⟩])
  .ret)
  .skip))
  (.seq (.reg [⟨(some 4), none, .mv (Ki 0)⟩])
  .ret))))
theorem fn125 : Fn Go.Proofs.Try.prog 125 11 [.inl 4] c125 :=
  ⟨⟨_, _, Go.Proofs.Try.func125, rfl, by kernel_rfl, Go.Proofs.Try.ntmps125, by kernel_rfl, ⟨fun f => imp.contains f, false, fun _ => false, false⟩, by kernel_rfl⟩⟩
def c148 : C :=
  (.seq (.reg [⟨(some 2), none, .mv (k (.bool false))⟩])
  (.seq (.reg [Im 3 0, Im 4 0, ⟨(some 5), none, .bin .neq (t 3) (t 4)⟩, Im 2 5])
  .ret))
theorem fn148 : Fn Go.Proofs.Try.prog 148 6 [.inl 2] c148 :=
  ⟨⟨_, _, Go.Proofs.Try.func148, rfl, by kernel_rfl, Go.Proofs.Try.ntmps148, by kernel_rfl, ⟨fun f => imp.contains f, false, fun _ => false, false⟩, by kernel_rfl⟩⟩
end GP
namespace GP
open Go Go.Proofs
open Rd O
set_option maxRecDepth 100000
def c38 : C :=
  (.seq (.reg [⟨(some 2), none, .box (t 0)⟩, ⟨(some 3), none, .box (t 1)⟩, ⟨(some 4), none, .mv (k (.bool false))⟩])
  (.seq (.seq (.reg [If 8 0 2, Il 9 8, If 10 0 3, Il 11 10, ⟨(some 12), none, .bin .neq (t 9) (t 11)⟩, Im 13 12, Jf 14 13 false 1 2, Jl 15 13 false 14, Jf 16 13 false 1 3, Jl 17 13 false 16, ⟨(some 18), (some (13, false)), .bin .neq (t 15) (t 17)⟩, ⟨(some 19), none, .pick (t 13) (k (.bool true)) (t 18)⟩, Im 20 19, Jf 21 20 false 2 2, Jl 22 20 false 21, Jf 23 20 false 2 3, Jl 24 20 false 23, ⟨(some 25), (some (20, false)), .bin .neq (t 22) (t 24)⟩, ⟨(some 26), none, .pick (t 20) (k (.bool true)) (t 25)⟩, Im 27 26, Jf 28 27 false 3 2, Jl 29 27 false 28, ⟨(some 30), (some (27, false)), .len (t 29)⟩, Jf 31 27 false 3 3, Jl 32 27 false 31, ⟨(some 33), (some (27, false)), .len (t 32)⟩, ⟨(some 34), (some (27, false)), .bin .neq (t 30) (t 33)⟩, ⟨(some 35), none, .pick (t 27) (k (.bool true)) (t 34)⟩])
  (.cond (t 35)
  (.seq (.reg [⟨(some 4), none, .mv (k (.bool false))⟩])
  .ret)
  .skip))
  (.seq (.seq (.reg [⟨(some 5), none, .mv (Ki 0)⟩])
  (.block 0
  (.loop
  (.seq (.seq (.reg [Im 36 5, If 37 3 2, Il 38 37, Iz 39 38, ⟨(some 40), none, .bin .lss (t 36) (t 39)⟩])
  (.cond (t 40)
  .skip
  (.exit 0)))
  (.seq (.block 1
  (.seq (.draw 2 [(If 43 3 2, []), (Il 44 43, []), (Im 45 5, []), (⟨(some 46), none, .iaddr 4 (t 44) (t 45)⟩, []), (Ia 47 4 46, []), (If 48 3 3, []), (Il 49 48, []), (Im 50 5, []), (⟨(some 51), none, .iaddr 4 (t 49) (t 50)⟩, []), (Ia 52 4 51, []), (⟨(some 6), none, .rawAt 2 [(.int .i64 0), (.int .i64 0), (.str []), .nils]⟩, []), (⟨(some 7), none, .rawAt 1 [(.int .i64 0), (.int .i64 0), (.str []), .nils]⟩, []), (⟨none, none, .fillAt 2 4 (t 6) (t 47)⟩, []), (⟨none, none, .fillAt 1 4 (t 7) (t 52)⟩, [])])
  (.seq (.reg [If 53 0 6, Il 54 53, If 55 0 7, Il 56 55, ⟨(some 57), none, .bin .neq (t 54) (t 56)⟩, Im 58 57, Jf 59 58 false 1 6, Jl 60 58 false 59, Jf 61 58 false 1 7, Jl 62 58 false 61, ⟨(some 63), (some (58, false)), .bin .neq (t 60) (t 62)⟩, ⟨(some 64), none, .pick (t 58) (k (.bool true)) (t 63)⟩, Im 65 64, Jf 66 65 false 2 6, Jl 67 65 false 66, Jf 68 65 false 2 7, Jl 69 65 false 68, ⟨(some 70), (some (65, false)), .bin .neq (t 67) (t 69)⟩, ⟨(some 71), none, .pick (t 65) (k (.bool true)) (t 70)⟩, Im 72 71, Jf 73 72 false 3 6, Jl 74 72 false 73, ⟨(some 75), (some (72, false)), .len (t 74)⟩, ⟨(some 76), (some (72, false)), .bin .gtr (t 75) (Ki 0)⟩, ⟨(some 77), none, .pick (t 72) (k (.bool true)) (t 76)⟩, Im 78 77, Jf 79 78 false 3 7, Jl 80 78 false 79, ⟨(some 81), (some (78, false)), .len (t 80)⟩, ⟨(some 82), (some (78, false)), .bin .gtr (t 81) (Ki 0)⟩, ⟨(some 83), none, .pick (t 78) (k (.bool true)) (t 82)⟩])
  (.cond (t 83)
  (.seq (.reg [⟨(some 4), none, .mv (k (.bool false))⟩])
  .ret)
  .skip))))
  (.reg [Im 41 5, ⟨(some 42), none, .bin .add (t 41) (Ki 1)⟩, Im 5 42]))))))
  (.seq (.reg [⟨(some 4), none, .mv (k (.bool true))⟩])
  .ret))))
theorem fn38 : Fn Go.Proofs.Try.prog 38 84 [.inl 4] c38 :=
  ⟨⟨_, _, Go.Proofs.Try.func38, rfl, by kernel_rfl, Go.Proofs.Try.ntmps38, by kernel_rfl, ⟨fun f => imp.contains f, false, fun _ => false, false⟩, by kernel_rfl⟩⟩
def c51 : C :=
  (.seq (.reg [⟨(some 1), none, .box (t 0)⟩, ⟨(some 2), none, .mv (k (.bool false))⟩])
  (.seq (.seq (.reg [If 4 0 1, Il 5 4, ⟨(some 6), none, .bin .neq (t 5) (Ki 5)⟩])
  (.cond (t 6)
  (.seq (.reg [Ia 7 4 1, Ip 8 89 [(t 7)], Im 2 8])
  .ret)
  .skip))
  (.seq (.seq (.reg [If 9 1 1, Il 10 9, ⟨(some 11), none, .bin .neq (t 10) (Ki 0)⟩, Im 12 11, Jf 13 12 false 2 1, Jl 14 12 false 13, ⟨(some 15), (some (12, false)), .bin .neq (t 14) (k (.str []))⟩, ⟨(some 16), none, .pick (t 12) (k (.bool true)) (t 15)⟩, Im 17 16, Jf 18 17 false 3 1, Jl 19 17 false 18, ⟨(some 20), (some (17, false)), .len (t 19)⟩, ⟨(some 21), (some (17, false)), .bin .gtr (t 20) (Ki 16)⟩, ⟨(some 22), none, .pick (t 17) (k (.bool true)) (t 21)⟩])
  (.cond (t 22)
  (.seq (.reg [⟨(some 2), none, .mv (k (.bool false))⟩])
  .ret)
  .skip))
  (.seq (.seq (.reg [⟨(some 3), none, .mv (Ki 0)⟩])
  (.block 0
  (.loop
  (.seq (.seq (.reg [Im 23 3, If 24 3 1, Il 25 24, Iz 26 25, ⟨(some 27), none, .bin .lss (t 23) (t 26)⟩])
  (.cond (t 27)
  .skip
  (.exit 0)))
  (.seq (.block 1
  (.seq (.draw 0 [(If 30 3 1, []), (Il 31 30, []), (Im 32 3, []), (⟨(some 33), none, .iaddr 4 (t 31) (t 32)⟩, []), (Ia 34 4 33, []), (Ip 35 89 [(t 34)], []), (⟨(some 36), none, .un .not (t 35)⟩, []), (Im 37 36, []), (Jf 38 37 false 3 1, []), (Jl 39 37 false 38, []), (Jm 40 37 false 3, []), (⟨(some 41), (some (37, false)), .iaddr 4 (t 39) (t 40)⟩, []), (Jf 42 37 false 0 41, []), (Jl 43 37 false 42, []), (⟨(some 44), (some (37, false)), .bin .eql (t 43) (Ki 0)⟩, []), (⟨(some 45), none, .pick (t 37) (k (.bool true)) (t 44)⟩, []), (Im 46 45, []), (Jf 47 46 false 3 1, []), (Jl 48 46 false 47, []), (Jm 49 46 false 3, []), (⟨(some 50), (some (46, false)), .iaddr 4 (t 48) (t 49)⟩, []), (Jf 51 46 false 0 50, []), (Jl 52 46 false 51, []), (Jf 53 46 false 3 1, []), (Jl 54 46 false 53, []), (⟨(some 55), (some (46, false)), .iaddr 4 (t 54) (Ki 0)⟩, []), (Jf 56 46 false 0 55, []), (Jl 57 46 false 56, []), (⟨(some 58), (some (46, false)), .bin .neq (t 52) (t 57)⟩, []), (⟨(some 59), none, .pick (t 46) (k (.bool true)) (t 58)⟩, []), (Im 60 59, []), (Jm 61 60 false 3, []), (⟨(some 62), (some (60, false)), .bin .gtr (t 61) (Ki 0)⟩, []), (Jm 63 60 false 62, []), (Jf 64 63 true 3 1, []), (Jl 65 63 true 64, []), (Jm 66 63 true 3, []), (⟨(some 67), (some (63, true)), .bin .sub (t 66) (Ki 1)⟩, []), (⟨(some 68), (some (63, true)), .iaddr 4 (t 65) (t 67)⟩, []), (⟨(some 69), (some (63, true)), .load true 4 (t 68)⟩, []), (Jf 70 63 true 3 1, []), (Jl 71 63 true 70, []), (Jm 72 63 true 3, []), (⟨(some 73), (some (63, true)), .iaddr 4 (t 71) (t 72)⟩, []), (⟨(some 74), (some (63, true)), .load true 4 (t 73)⟩, []), (⟨(some 75), (some (63, true)), .pcall (k (.fn 90 [] [])) [(t 69), (t 74)]⟩, []), (⟨(some 76), (some (63, true)), .bin .geq (t 75) (Ki 0)⟩, []), (⟨(some 77), (some (60, false)), .pick (t 63) (t 76) (k (.bool false))⟩, []), (⟨(some 78), none, .pick (t 60) (k (.bool true)) (t 77)⟩, [])])
  (.cond (t 78)
  (.seq (.reg [⟨(some 2), none, .mv (k (.bool false))⟩])
  .ret)
  .skip)))
  (.reg [Im 28 3, ⟨(some 29), none, .bin .add (t 28) (Ki 1)⟩, Im 3 29]))))))
  (.seq (.reg [⟨(some 2), none, .mv (k (.bool true))⟩])
  .ret)))))
theorem fn51 : Fn Go.Proofs.Try.prog 51 79 [.inl 2] c51 :=
  ⟨⟨_, _, Go.Proofs.Try.func51, rfl, by kernel_rfl, Go.Proofs.Try.ntmps51, by kernel_rfl, ⟨fun f => imp.contains f, false, fun _ => false, false⟩, by kernel_rfl⟩⟩
def c89 : C :=
  (.seq (.reg [⟨(some 1), none, .box (t 0)⟩, ⟨(some 2), none, .mv (k (.bool false))⟩])
  (.seq (.seq (.reg [If 3 3 1, Il 4 3, Iz 5 4, ⟨(some 6), none, .bin .gtr (t 5) (Ki 0)⟩, Im 7 6, Jf 8 7 false 0 1, Jl 9 7 false 8, ⟨(some 10), (some (7, false)), .bin .lss (t 9) (Ki 0)⟩, ⟨(some 11), none, .pick (t 7) (k (.bool true)) (t 10)⟩, Im 12 11, Jf 13 12 false 0 1, Jl 14 12 false 13, ⟨(some 15), (some (12, false)), .bin .gtr (t 14) (Ki 4)⟩, ⟨(some 16), none, .pick (t 12) (k (.bool true)) (t 15)⟩])
  (.cond (t 16)
  (.seq (.reg [⟨(some 2), none, .mv (k (.bool false))⟩])
  .ret)
  .skip))
  (.seq (.seq (.reg [If 17 0 1, Il 18 17, ⟨(some 19), none, .bin .eql (t 18) (Ki 3)⟩])
  (.cond (t 19)
  (.seq (.reg [If 20 1 1, Il 21 20, ⟨(some 22), none, .bin .eql (t 21) (Ki 0)⟩, Im 23 22, Jf 24 23 true 2 1, Jl 25 23 true 24, ⟨(some 26), (some (23, true)), .lens (t 25)⟩, ⟨(some 27), (some (23, true)), .bin .leq (t 26) (Ki 64)⟩, ⟨(some 28), none, .pick (t 23) (t 27) (k (.bool false))⟩, Im 2 28])
  .ret)
  .skip))
  (.seq (.seq (.reg [If 29 2 1, Il 30 29, ⟨(some 31), none, .bin .neq (t 30) (k (.str []))⟩, Im 32 31, Jf 33 32 false 0 1, Jl 34 32 false 33, ⟨(some 35), (some (32, false)), .bin .eql (t 34) (Ki 0)⟩, Jm 36 32 false 35, Jf 37 36 true 1 1, Jl 38 36 true 37, ⟨(some 39), (some (36, true)), .bin .neq (t 38) (Ki 0)⟩, ⟨(some 40), (some (32, false)), .pick (t 36) (t 39) (k (.bool false))⟩, ⟨(some 41), none, .pick (t 32) (k (.bool true)) (t 40)⟩, Im 42 41, Jf 43 42 false 0 1, Jl 44 42 false 43, ⟨(some 45), (some (42, false)), .bin .eql (t 44) (Ki 1)⟩, Jm 46 42 false 45, Jf 47 46 true 1 1, Jl 48 46 true 47, ⟨(some 49), (some (46, true)), .bin .neq (t 48) (Ki 0)⟩, ⟨(some 50), (some (42, false)), .pick (t 46) (t 49) (k (.bool false))⟩, Jm 51 42 false 50, Jf 52 51 true 1 1, Jl 53 51 true 52, ⟨(some 54), (some (51, true)), .bin .neq (t 53) (Ki 1)⟩, ⟨(some 55), (some (42, false)), .pick (t 51) (t 54) (k (.bool false))⟩, ⟨(some 56), none, .pick (t 42) (k (.bool true)) (t 55)⟩])
  (.cond (t 56)
  (.seq (.reg [⟨(some 2), none, .mv (k (.bool false))⟩])
  .ret)
  .skip))
  (.seq (.reg [If 57 0 1, Il 58 57, ⟨(some 59), none, .bin .neq (t 58) (Ki 4)⟩, Im 60 59, Jf 61 60 false 1 1, Jl 62 60 false 61, ⟨(some 63), (some (60, false)), .bin .geq (t 62) (Ki 0)⟩, Jm 64 60 false 63, Jf 65 64 true 1 1, Jl 66 64 true 65, ⟨(some 67), (some (64, true)), .bin .leq (t 66) (Ki 1099511627776)⟩, ⟨(some 68), (some (60, false)), .pick (t 64) (t 67) (k (.bool false))⟩, ⟨(some 69), none, .pick (t 60) (k (.bool true)) (t 68)⟩, Im 2 69])
  .ret)))))
theorem fn89 : Fn Go.Proofs.Try.prog 89 70 [.inl 2] c89 :=
  ⟨⟨_, _, Go.Proofs.Try.func89, rfl, by kernel_rfl, Go.Proofs.Try.ntmps89, by kernel_rfl, ⟨fun f => imp.contains f, false, fun _ => false, false⟩, by kernel_rfl⟩⟩
def c90 : C :=
  (.seq (.reg [⟨(some 2), none, .box (t 0)⟩, ⟨(some 3), none, .box (t 1)⟩, ⟨(some 4), none, .mv (Ki 0)⟩])
  (.seq (.seq (.reg [If 5 0 2, Il 6 5, If 7 0 3, Il 8 7, ⟨(some 9), none, .bin .neq (t 6) (t 8)⟩])
  (.cond (t 9)
  (.seq (.reg [If 10 0 2, Il 11 10, If 12 0 3, Il 13 12, Ip 14 125 [(t 11), (t 13)], Im 4 14])
  .ret)
  .skip))
  (.seq (.seq (.reg [If 15 0 2, Il 16 15, ⟨(some 17), none, .bin .eql (t 16) (Ki 3)⟩])
  (.cond (t 17)
  (.seq (.reg [If 18 2 2, Il 19 18, If 20 2 3, Il 21 20, Ip 22 40 [(t 19), (t 21)], Im 4 22])
  .ret)
  .skip))
  (.seq (.reg [If 23 1 2, Il 24 23, If 25 1 3, Il 26 25, Ip 27 125 [(t 24), (t 26)], Im 4 27])
  .ret))))
theorem fn90 : Fn Go.Proofs.Try.prog 90 28 [.inl 4] c90 :=
  ⟨⟨_, _, Go.Proofs.Try.func90, rfl, by kernel_rfl, Go.Proofs.Try.ntmps90, by kernel_rfl, ⟨fun f => imp.contains f, false, fun _ => false, false⟩, by kernel_rfl⟩⟩
def c91 : C :=
  (.seq (.reg [⟨(some 1), none, .box (t 0)⟩, ⟨(some 2), none, .mv (k (.bool false))⟩])
  (.seq (.seq (.reg [If 3 3 1, Il 4 3, Iz 5 4, ⟨(some 6), none, .bin .gtr (t 5) (Ki 0)⟩, Im 7 6, Jf 8 7 false 0 1, Jl 9 7 false 8, ⟨(some 10), (some (7, false)), .bin .neq (t 9) (Ki 3)⟩, Jm 11 7 false 10, Jf 12 11 true 2 1, Jl 13 11 true 12, ⟨(some 14), (some (11, true)), .bin .neq (t 13) (k (.str []))⟩, ⟨(some 15), (some (7, false)), .pick (t 11) (t 14) (k (.bool false))⟩, ⟨(some 16), none, .pick (t 7) (k (.bool true)) (t 15)⟩])
  (.cond (t 16)
  (.seq (.reg [⟨(some 2), none, .mv (k (.bool false))⟩])
  .ret)
  .skip))
  (.seq (.seq (.reg [If 17 0 1, Il 18 17])
  (.block 0
  (.seq (.reg [⟨(some 20), none, .bin .eql (t 18) (Ki 0)⟩, Im 19 20])
  (.cond (t 19)
  (.seq (.reg [If 21 1 1, Il 22 21, ⟨(some 23), none, .bin .eql (t 22) (Ki 0)⟩, Im 2 23])
  .ret)
  (.seq (.reg [⟨(some 25), none, .bin .eql (t 18) (Ki 1)⟩, Im 24 25])
  (.cond (t 24)
  (.seq (.reg [If 26 1 1, Il 27 26, ⟨(some 28), none, .bin .eql (t 27) (Ki 0)⟩, Im 29 28, Jf 30 29 false 1 1, Jl 31 29 false 30, ⟨(some 32), (some (29, false)), .bin .eql (t 31) (Ki 1)⟩, ⟨(some 33), none, .pick (t 29) (k (.bool true)) (t 32)⟩, Im 2 33])
  .ret)
  (.seq (.reg [⟨(some 35), none, .bin .eql (t 18) (Ki 2)⟩, Im 34 35])
  (.cond (t 34)
  (.seq (.reg [⟨(some 2), none, .mv (k (.bool true))⟩])
  .ret)
  (.seq (.reg [⟨(some 37), none, .bin .eql (t 18) (Ki 3)⟩, Im 36 37])
  (.cond (t 36)
  (.seq (.reg [If 38 1 1, Il 39 38, ⟨(some 40), none, .bin .eql (t 39) (Ki 0)⟩, Im 41 40, Jf 42 41 true 2 1, Jl 43 41 true 42, ⟨(some 44), (some (41, true)), .lens (t 43)⟩, ⟨(some 45), (some (41, true)), .bin .leq (t 44) (Ki 64)⟩, ⟨(some 46), none, .pick (t 41) (t 45) (k (.bool false))⟩, Im 2 46])
  .ret)
  (.seq (.reg [⟨(some 48), none, .bin .eql (t 18) (Ki 4)⟩, Im 47 48])
  (.cond (t 47)
  (.seq (.reg [If 49 1 1, Il 50 49, ⟨(some 51), none, .bin .geq (t 50) (Ki 0)⟩, Im 52 51, Jf 53 52 true 1 1, Jl 54 52 true 53, ⟨(some 55), (some (52, true)), .bin .leq (t 54) (Ki 1099511627776)⟩, ⟨(some 56), none, .pick (t 52) (t 55) (k (.bool false))⟩, Im 2 56])
  .ret)
  .skip))))))))))))
  (.seq (.reg [⟨(some 2), none, .mv (k (.bool false))⟩])
  .ret))))
theorem fn91 : Fn Go.Proofs.Try.prog 91 57 [.inl 2] c91 :=
  ⟨⟨_, _, Go.Proofs.Try.func91, rfl, by kernel_rfl, Go.Proofs.Try.ntmps91, by kernel_rfl, ⟨fun f => imp.contains f, false, fun _ => false, false⟩, by kernel_rfl⟩⟩
def c123 : C :=
  (.seq (.reg [⟨(some 4), none, .mv (Ki 0)⟩])
  (.seq (.reg [Im 7 0, Ip 8 148 [(t 7)], Im 5 8])
  (.seq (.reg [Im 9 1, Ip 10 148 [(t 9)], Im 6 10])
  (.seq (.seq (.reg [Im 11 5])
  (.cond (t 11)
  (.seq (.seq (.reg [Im 12 6])
  (.cond (t 12)
  (.seq (.reg [⟨(some 4), none, .mv (Ki 0)⟩])
  .ret)
  .skip))
  (.seq (.reg [⟨(some 4), none, .mv (k (.int .i64 (-1)))⟩])
  .ret))
  .skip))
  (.seq (.seq (.reg [Im 13 6])
  (.cond (t 13)
  (.seq (.reg [⟨(some 4), none, .mv (Ki 1)⟩])
  .ret)
  .skip))
  (.seq (.seq (.reg [Im 14 0, Im 15 1, ⟨(some 16), none, .bin .lss (t 14) (t 15)⟩])
  (.cond (t 16)
  (.seq (.reg [⟨(some 4), none, .mv (k (.int .i64 (-1)))⟩])
  .ret)
  .skip))
  (.seq (.seq (.reg [Im 17 0, Im 18 1, ⟨(some 19), none, .bin .gtr (t 17) (t 18)⟩])
  (.cond (t 19)
  (.seq (.reg [⟨(some 4), none, .mv (Ki 1)⟩])
  .ret)
  .skip))
  (.seq (.reg [⟨(some 4), none, .mv (Ki 0)⟩])
  .ret))))))))
theorem fn123 : Fn Go.Proofs.Try.prog 123 20 [.inl 4] c123 :=
  ⟨⟨_, _, Go.Proofs.Try.func123, rfl, by kernel_rfl, Go.Proofs.Try.ntmps123, by kernel_rfl, ⟨fun f => imp.contains f, false, fun _ => false, false⟩, by kernel_rfl⟩⟩
def c124 : C :=
  (.seq (.reg [⟨(some 6), none, .mv (Ki 0)⟩])
  (.seq (.seq (.reg [Im 11 0, Iz 12 11, ⟨(some 13), none, .mv (Ki 0)⟩])
  (.block 0
  (.loop
  (.seq (.reg [⟨(some 14), none, .bin .lss (t 13) (t 12)⟩])
  (.seq (.cond (t 14)
  .skip
  (.exit 0))
  (.seq (.block 1
  (.seq (.reg [Im 15 13, ⟨(some 16), none, .iaddr 4 (t 11) (t 13)⟩, Ia 17 4 16, ⟨(some 8), none, .alloc [(.int .i64 0), (.int .i64 0), (.str []), .nils]⟩, Im 7 15, Is 4 8 17])
  (.seq (.seq (.reg [Im 18 7, Im 19 1, Iz 20 19, ⟨(some 21), none, .bin .geq (t 18) (t 20)⟩])
  (.cond (t 21)
  (.seq (.reg [⟨(some 6), none, .mv (Ki 1)⟩])
  .ret)
  .skip))
  (.seq (.reg [Im 22 1, Im 23 7, ⟨(some 24), none, .iaddr 4 (t 22) (t 23)⟩, Ia 25 4 24, ⟨(some 9), none, .alloc [(.int .i64 0), (.int .i64 0), (.str []), .nils]⟩, Is 4 9 25])
  (.seq (.reg [Im 26 2, Ia 27 4 8, Ia 28 4 9, ⟨(some 29), none, .pcall (t 26) [(t 27), (t 28)]⟩, Im 10 29])
  (.seq (.reg [Im 30 10, ⟨(some 31), none, .bin .neq (t 30) (Ki 0)⟩])
  (.cond (t 31)
  (.seq (.reg [Im 32 10, Im 6 32])
  .ret)
  .skip)))))))
  (.reg [⟨(some 33), none, .bin .add (t 13) (Ki 1)⟩, Im 13 33])))))))
  (.seq (.seq (.reg [Im 34 0, Iz 35 34, Im 36 1, Iz 37 36, ⟨(some 38), none, .bin .lss (t 35) (t 37)⟩])
  (.cond (t 38)
  (.seq (.reg [⟨(some 6), none, .mv (k (.int .i64 (-1)))⟩])
  .ret)
  .skip))
  (.seq (.reg [⟨(some 6), none, .mv (Ki 0)⟩])
  .ret))))
theorem fn124 : Fn Go.Proofs.Try.prog 124 39 [.inl 6] c124 :=
  ⟨⟨_, _, Go.Proofs.Try.func124, rfl, by kernel_rfl, Go.Proofs.Try.ntmps124, by kernel_rfl, ⟨fun f => imp.contains f, false, fun _ => false, false⟩, by kernel_rfl⟩⟩
def c147 : C :=
  (.seq (.reg [⟨(some 2), none, .mv (k (.bool false))⟩])
  (.seq (.reg [Im 3 0, Im 4 0, ⟨(some 5), none, .bin .neq (t 3) (t 4)⟩, Im 2 5])
  .ret))
theorem fn147 : Fn Go.Proofs.Try.prog 147 6 [.inl 2] c147 :=
  ⟨⟨_, _, Go.Proofs.Try.func147, rfl, by kernel_rfl, Go.Proofs.Try.ntmps147, by kernel_rfl, ⟨fun f => imp.contains f, false, fun _ => false, false⟩, by kernel_rfl⟩⟩
end GP
namespace GP
open Go Go.Proofs
open Rd O
set_option maxRecDepth 100000
def c100 : C :=
  (.seq (.reg [⟨(some 2), none, .mv (Ki 0)⟩])
  (.seq (.reg [⟨(some 3), none, .mv (Ki 0)⟩])
  (.seq (.seq (.reg [Im 6 0, Iz 7 6, ⟨(some 8), none, .mv (Ki 0)⟩])
  (.block 0
  (.loop
  (.seq (.reg [⟨(some 9), none, .bin .lss (t 8) (t 7)⟩])
  (.seq (.cond (t 9)
  .skip
  (.exit 0))
  (.seq (.block 1
  (.seq (.reg [⟨(some 10), none, .iaddr 1 (t 6) (t 8)⟩, Il 11 10, Im 5 11])
  (.seq (.reg [Im 12 5, Im 13 3, ⟨(some 14), none, .bin .neq (t 12) (t 13)⟩])
  (.cond (t 14)
  (.seq (.reg [Im 15 5, Im 2 15])
  .ret)
  .skip))))
  (.reg [⟨(some 16), none, .bin .add (t 8) (Ki 1)⟩, Im 8 16])))))))
  (.seq (.reg [Im 17 3, Im 2 17])
  .ret))))
theorem fn100 : Fn Go.Proofs.Try.prog 100 18 [.inl 2] c100 :=
  ⟨⟨_, _, Go.Proofs.Try.func100, rfl, by kernel_rfl, Go.Proofs.Try.ntmps100, by kernel_rfl, ⟨fun f => imp.contains f, false, fun _ => false, false⟩, by kernel_rfl⟩⟩
def c101 : C :=
  (.seq (.reg [⟨(some 4), none, .mv (Ki 0)⟩])
  (.seq (.reg [Im 5 0, Im 6 1, Ip 7 131 [(t 5), (t 6)], Im 4 7])
  .ret))
theorem fn101 : Fn Go.Proofs.Try.prog 101 8 [.inl 4] c101 :=
  ⟨⟨_, _, Go.Proofs.Try.func101, rfl, by kernel_rfl, Go.Proofs.Try.ntmps101, by kernel_rfl, ⟨fun f => imp.contains f, false, fun _ => false, false⟩, by kernel_rfl⟩⟩
def c131 : C :=
  (.seq (.reg [⟨(some 4), none, .mv (Ki 0)⟩])
  (.seq (.reg [Im 5 0, Im 6 1, Ip 7 153 [(t 5), (t 6)], Im 4 7])
  .ret))
theorem fn131 : Fn Go.Proofs.Try.prog 131 8 [.inl 4] c131 :=
  ⟨⟨_, _, Go.Proofs.Try.func131, rfl, by kernel_rfl, Go.Proofs.Try.ntmps131, by kernel_rfl, ⟨fun f => imp.contains f, false, fun _ => false, false⟩, by kernel_rfl⟩⟩
end GP
namespace GP
open Go Go.Proofs
set_option maxRecDepth 100000
variable [HasG Try.prog]
def num (n : Int) : D := .agg [.int .i64 2, .int .i64 n, .str [], .nils]
def plainB (k i : Int) (s : List UInt8) (n : Nat) : Bool :=
  if decide ((0 : Int) < n) then false else if (k != 3) && (s != []) then false else
  if k == 0 then i == 0 else if k == 1 then i == 0 || i == 1 else if k == 2 then true else
  if k == 3 then i == 0 && decide ((s.length : Int) ≤ 64) else if k == 4 then decide (0 ≤ i) && decide (i ≤ 1099511627776) else false
def φplain : List D → Option D
  | [.agg [.int .i64 k, .int .i64 i, .str s, l]] => match lenD l with
    | some n => some (.bool (plainB k i s n))
    | none => none
  | _ => none
theorem lenD_okc {l : D} {n : Nat} (h : lenD l = some n) : l.okc = true ∧ l.cells = [l] := by
  cases l <;> simp [lenD] at h <;> exact ⟨rfl, rfl⟩
theorem ok91 : OkAt Try.prog 91 φplain := by
  refine ok_of (l := []) Ok.nil fn91 fun args r h => ?_
  unfold φplain at h
  split at h
  · split at h
    · rename_i k i s l n hn
      injection h with h; subst h
      refine ⟨by simp, by simp [D.cl, D.clL, num], fun H T => ?_⟩
      have hl := lenD_okc hn
      simp +contextual (maxSteps := 10000000) only [c91, plainB, hn, hl.1, hl.2, go_sem, W_draw]
    · cases h
  · cases h
theorem wrap_of (a : Int) (h : -(2 ^ 63) ≤ a) (h' : a < 2 ^ 63) : IntKind.i64.wrap a = a := by
  have e : IntKind.i64.wrap a = if a % (2 ^ 64 : Int) ≥ (2 ^ 63 : Int) then a % (2 ^ 64 : Int) - (2 ^ 64 : Int) else a % (2 ^ 64 : Int) := by
    simp [IntKind.wrap, IntKind.bits, IntKind.signed]
  rw [e]
  split <;> omega
theorem wrap_nat (n : Nat) (h : n < 2 ^ 62) : IntKind.i64.wrap (n : Int) = n := wrap_of _ (by omega) (by omega)
theorem wrap_succ (n : Nat) (h : n < 2 ^ 61) : IntKind.i64.wrap ((n : Int) + 1) = ((n + 1 : Nat) : Int) := by
  have := wrap_nat (n + 1) (by omega)
  rw [← this]; simp
@[go_sem] theorem ixs_nat (s : List UInt8) (k : IntKind) (i : Nat) : ixs (.str s) (.int k (i : Int)) = (s[i]?).map fun b => .int .u8 (b.toNat : Int) := by
  simp [ixs]
def cmpI (a b : Int) : Int := if a < b then -1 else if b < a then 1 else 0
def cmpS : List UInt8 → List UInt8 → Int
  | [], [] => 0
  | [], _ :: _ => -1
  | _ :: _, [] => 1
  | x :: a, y :: b => if x.toNat < y.toNat then -1 else if y.toNat < x.toNat then 1 else cmpS a b
def φnumbers : List D → Option D
  | [.int .i64 a, .int .i64 b] => some (.int .i64 (cmpI a b))
  | _ => none
theorem ok125 : OkAt Try.prog 125 φnumbers := by
  refine ok_of (l := []) Ok.nil fn125 fun args r h => ?_
  unfold φnumbers at h
  split at h
  · injection h with h; subst h
    refine ⟨by simp, by simp [D.cl], fun H T => ?_⟩
    simp +contextual (maxSteps := 10000000) only [c125, cmpI, go_sem, W_draw]
    simp
    omega
  · cases h
def φTexts : List D → Option D
  | [.str a, .str b] => if a.length ≤ 2 ^ 47 ∧ b.length ≤ 2 ^ 47 then some (.int .i64 (cmpS a b)) else none
  | _ => none
theorem ok40 : OkAt Try.prog 40 φTexts := by
  refine ok_of (l := []) Ok.nil fn40 fun args r h => ?_
  unfold φTexts at h
  split at h
  · split at h
    · rename_i a b hl
      injection h with h; subst h
      refine ⟨by simp, by simp [D.cl], fun H T => ?_⟩
      simp +contextual (maxSteps := 10000000) only [c40, go_sem, W_draw]
      refine W_for (fun i s => s.t 0 = .str a ∧ s.t 1 = .str b ∧ s.t 5 = .int .i64 i ∧ s.H = H ∧ s.T = T ∧ i ≤ a.length ∧ i ≤ b.length ∧ cmpS (a.drop i) (b.drop i) = cmpS a b) a.length ⟨0, by simp [upd, argT]⟩ (fun i s h => h.2.2.2.2.2.1) ?_ (XL_mono _)
      rintro i ⟨t, H', T'⟩ ⟨h0, h1, h5, rfl, rfl, hi, hj, hc⟩
      simp only at h0 h1 h5
      by_cases ha : i < a.length
      · by_cases hb : i < b.length
        · have d1 : decide ((i : Int) < a.length) = true := by simpa using ha
          have d2 : decide ((i : Int) < b.length) = true := by simpa using hb
          have e1 : a[i]? = some a[i] := by simp [ha]
          have e2 : b[i]? = some b[i] := by simp [hb]
          rw [List.drop_eq_getElem_cons ha, List.drop_eq_getElem_cons hb, cmpS] at hc
          simp +contextual (maxSteps := 10000000) only [h0, h1, h5, d1, d2, e1, e2, wrap_succ i (by omega), go_sem, W_draw]
          refine ⟨fun h => ?_, fun h => ⟨fun h' => ?_, fun h' => ⟨by omega, by omega, ?_⟩⟩⟩ <;> simp only [decide_eq_true_eq, decide_eq_false_iff_not] at h <;> (try simp only [decide_eq_true_eq, decide_eq_false_iff_not] at h')
          · rw [if_pos (by omega)] at hc; rw [hc]
          · rw [if_neg (by omega), if_pos (by omega)] at hc; rw [hc]
          · rw [if_neg (by omega), if_neg (by omega)] at hc; exact hc
        · have d1 : decide ((i : Int) < a.length) = true := by simpa using ha
          have d2 : decide ((i : Int) < b.length) = false := by simpa using hb
          have d3 : decide ((a.length : Int) < b.length) = false := by simp; omega
          have d4 : decide ((b.length : Int) < a.length) = true := by simp; omega
          rw [List.drop_eq_getElem_cons ha, List.drop_eq_nil_of_le (by omega : b.length ≤ i), cmpS] at hc
          simp +contextual (maxSteps := 10000000) only [h0, h1, h5, d1, d2, d3, d4, ← hc, go_sem, W_draw]
      · have d1 : decide ((i : Int) < a.length) = false := by simpa using ha
        have d3 : decide ((b.length : Int) < a.length) = false := by simp; omega
        rw [List.drop_eq_nil_of_le (by omega : a.length ≤ i)] at hc
        by_cases hb : i < b.length
        · have d4 : decide ((a.length : Int) < b.length) = true := by simp; omega
          rw [List.drop_eq_getElem_cons hb, cmpS] at hc
          simp +contextual (maxSteps := 10000000) only [h0, h1, h5, d1, d3, d4, ← hc, go_sem, W_draw]
        · have d4 : decide ((a.length : Int) < b.length) = false := by simp; omega
          rw [List.drop_eq_nil_of_le (by omega : b.length ≤ i), cmpS] at hc
          simp +contextual (maxSteps := 10000000) only [h0, h1, h5, d1, d3, d4, ← hc, go_sem, W_draw]
    · cases h
  · cases h
theorem body153 : Try.f153.body.isNone = true := by kernel_rfl
theorem name153 : (Try.f153.name == "runtime.NumGoroutine") = false := by kernel_rfl
theorem next153 : Extern.findNext Try.f153 = none := by kernel_rfl
theorem find153 : Extern.find Try.f153 = some Extern.BytealgCompare.compare := by rfl
theorem cmpS_eq : ∀ (a b : List UInt8), Lib.compareBytes a b = cmpS a b
  | [], [] => rfl
  | [], _ :: _ => rfl
  | _ :: _, [] => rfl
  | x :: a, y :: b => by
    simp only [Lib.compareBytes, cmpS, UInt8.lt_iff_toNat_lt, cmpS_eq a b]
def φcmp : List D → Option D
  | [.str a, .str b] => some (.int .i64 (cmpS a b))
  | _ => none
theorem ok153 : OkAt Try.prog 153 φcmp := by
  intro args r hr args' he H T Q hQ
  unfold φcmp at hr
  split at hr
  · rename_i a b
    injection hr with hr; subst hr
    intro c w vs _ hi hT hrep
    have h := hrep.erase
    rw [he] at h
    match vs, h.len with
    | [v1, v2], _ =>
      have h1 : Rep c (.str a) v1 := h.rep 0 (by simp) (by simp)
      have h2 : Rep c (.str b) v2 := h.rep 1 (by simp) (by simp)
      cases h1; cases h2
      refine .inr ⟨.int .i64 (cmpS a b), w, ?_, ?_⟩
      · rw [run_callFunc_extern Try.func153 name153 body153 next153 find153]
        have := Lib.run_compareString (P := Try.prog) ⟨a.toArray⟩ ⟨b.toArray⟩ w
        rw [cmpS_eq] at this
        simp only at this
        rw [this]; rfl
      · exact ⟨_, rfl, _, H, T, c, hQ, .int _ _, hi, Cx.le.refl c, hT, Below.refl _ _⟩
  · cases hr
theorem ok131 : OkAt Try.prog 131 φcmp := by
  refine ok_of (l := [(153, φcmp)]) (.cons ok153 .nil) fn131 fun args r h => ?_
  unfold φcmp at h
  split at h
  · injection h with h; subst h
    refine ⟨by simp, by simp [D.cl], fun H T => ?_⟩
    simp +contextual (maxSteps := 10000000) only [c131, φcmp, go_sem, W_draw]
  · cases h
theorem ok101 : OkAt Try.prog 101 φcmp := by
  refine ok_of (l := [(131, φcmp)]) (.cons ok131 .nil) fn101 fun args r h => ?_
  unfold φcmp at h
  split at h
  · injection h with h; subst h
    refine ⟨by simp, by simp [D.cl], fun H T => ?_⟩
    simp +contextual (maxSteps := 10000000) only [c101, φcmp, go_sem, W_draw]
  · cases h
def φnan : List D → Option D
  | [.int .i64 _] => some (.bool false)
  | _ => none
theorem ok147 : OkAt Try.prog 147 φnan := by
  refine ok_of (l := []) .nil fn147 fun args r h => ?_
  unfold φnan at h
  split at h
  · injection h with h; subst h
    refine ⟨by simp, by simp [D.cl], fun H T => ?_⟩
    simp +contextual (maxSteps := 10000000) only [c147, go_sem, W_draw]
  · cases h
theorem ok148 : OkAt Try.prog 148 φnan := by
  refine ok_of (l := []) .nil fn148 fun args r h => ?_
  unfold φnan at h
  split at h
  · injection h with h; subst h
    refine ⟨by simp, by simp [D.cl], fun H T => ?_⟩
    simp +contextual (maxSteps := 10000000) only [c148, go_sem, W_draw]
  · cases h
theorem ok122 : OkAt Try.prog 122 φnumbers := by
  refine ok_of (l := [(147, φnan)]) (.cons ok147 .nil) fn122 fun args r h => ?_
  unfold φnumbers at h
  split at h
  · injection h with h; subst h
    refine ⟨by simp, by simp [D.cl], fun H T => ?_⟩
    simp +contextual (maxSteps := 10000000) only [c122, φnan, cmpI, go_sem, W_draw]
    simp
    omega
  · cases h
theorem ok123 : OkAt Try.prog 123 φnumbers := by
  refine ok_of (l := [(148, φnan)]) (.cons ok148 .nil) fn123 fun args r h => ?_
  unfold φnumbers at h
  split at h
  · injection h with h; subst h
    refine ⟨by simp, by simp [D.cl], fun H T => ?_⟩
    simp +contextual (maxSteps := 10000000) only [c123, φnan, cmpI, go_sem, W_draw]
    simp
    omega
  · cases h
def φone : List D → Option D
  | [.agg [.int .i64 k, .int .i64 i, .str s, l]] => match lenD l with
    | some n => some (.bool (plainB k i s n))
    | none => none
  | _ => none
theorem ok89 : OkAt Try.prog 89 φone := by
  refine ok_of (l := []) Ok.nil fn89 fun args r h => ?_
  unfold φone at h
  split at h
  · split at h
    · rename_i k i s l n hn
      injection h with h; subst h
      refine ⟨by simp, by simp [D.cl, D.clL, num], fun H T => ?_⟩
      have hl := lenD_okc hn
      simp +contextual (maxSteps := 10000000) only [c89, hn, hl.1, hl.2, go_sem, W_draw]
      repeat' (first | apply And.intro | intro _)
      all_goals grind [plainB]
    · cases h
  · cases h
def singleI (k i : Int) (s : List UInt8) (k' i' : Int) (s' : List UInt8) : Int :=
  if k != k' then cmpI k k' else if k == 3 then cmpS s s' else cmpI i i'
def φsingle : List D → Option D
  | [.agg [.int .i64 k, .int .i64 i, .str s, l], .agg [.int .i64 k', .int .i64 i', .str s', l']] => if s.length ≤ 2 ^ 47 ∧ s'.length ≤ 2 ^ 47 ∧ (lenD l).isSome ∧ (lenD l').isSome then some (.int .i64 (singleI k i s k' i' s')) else none
  | _ => none
theorem ok90 : OkAt Try.prog 90 φsingle := by
  refine ok_of (l := [(125, φnumbers), (40, φTexts)]) (.cons ok125 (.cons ok40 .nil)) fn90 fun args r h => ?_
  unfold φsingle at h
  split at h
  · split at h
    · rename_i hl
      injection h with h; subst h
      refine ⟨by simp, by simp [D.cl, D.clL, num], fun H T => ?_⟩
      obtain ⟨h1, h2, h3, h4⟩ := hl
      obtain ⟨n, hn⟩ := Option.isSome_iff_exists.1 h3
      obtain ⟨n', hn'⟩ := Option.isSome_iff_exists.1 h4
      have hl := lenD_okc hn
      have hl' := lenD_okc hn'
      simp +contextual (maxSteps := 10000000) only [c90, φnumbers, φTexts, singleI, hn, hl.1, hl.2, hn', hl'.1, hl'.2, h1, h2, go_sem, W_draw]
    · cases h
  · cases h
@[go_sem high] theorem ia_nat (sz : Nat) (b : Bool) (xs : List D) (k : IntKind) (i : Nat) : ia sz (sliceD b xs) (.int k (i : Int)) = iaE sz xs[i]? := by
  rw [ia_sliceD]; simp
@[go_sem high] theorem ia_nat' (sz : Nat) (t : Option Nat) (xs : List D) (k : IntKind) (i : Nat) : ia sz (.sl t xs) (.int k (i : Int)) = iaE sz xs[i]? := by
  rw [ia_sl]; simp
theorem isSl_elim {l : D} (h : isSl l = true) : ∃ b, l = sliceD b (elems l) := by
  unfold isSl at h
  split at h
  · exact ⟨true, rfl⟩
  · exact ⟨false, rfl⟩
  · cases h
@[go_sem] theorem isSl_sliceD (b : Bool) (xs : List D) : isSl (sliceD b xs) = true := by
  rcases sliceD_cases b xs with ⟨h, _⟩ | h <;> rw [h] <;> rfl
theorem all_take_succ {p : D → Bool} {xs : List D} {i : Nat} {e : D} (h : xs[i]? = some e) : (xs.take (i + 1)).all p = ((xs.take i).all p && p e) := by
  rw [List.take_add_one, h]; simp
theorem all_false_of {p : D → Bool} {xs : List D} {i m : Nat} {e : D} (h : xs[i]? = some e) (hp : p e = false) (him : i < m) : (xs.take m).all p = false := by
  cases hq : (xs.take m).all p with
  | false => rfl
  | true =>
    have hm : e ∈ xs.take m := by
      refine List.mem_of_getElem? (i := i) ?_
      rw [List.getElem?_take_of_lt him]; exact h
    rw [List.all_eq_true.1 hq e hm] at hp; cases hp
def leafFew (e : D) : Bool := decide ((vs e).length ≤ 200) && decide ((vl e).length = 0)
def few1 (d : D) : Bool := decide ((vs d).length ≤ 200) && decide ((vl d).length ≤ 30) && (vl d).all leafFew
def fewB (xs : List D) (n : Int) : Bool := (xs.take 100).all few1 && decide ((xs.length : Int) ≤ n)
def φFew : List D → Option D
  | [l, .int .i64 n] => if isSl l = true ∧ D.isVs (elems l) = true ∧ (elems l).length ≤ 2 ^ 47 then some (.bool (fewB (elems l) n)) else none
  | _ => none
theorem ok49 : OkAt Try.prog 49 φFew := by
  refine ok_of (l := []) .nil fn49 fun args r h => ?_
  unfold φFew at h
  split at h
  · split at h
    · rename_i l n hl
      injection h with h; subst h
      refine ⟨by simp, by simp [D.cl], fun H T => ?_⟩
      obtain ⟨hl1, hl2, hl3⟩ := hl
      obtain ⟨b, hb⟩ := isSl_elim hl1
      generalize elems l = xs at hb hl2 hl3
      subst hb
      have hV := isVs_iff.1 hl2
      simp +contextual (maxSteps := 10000000) only [c49, go_sem, W_draw]
      refine W_for (fun i s => s.t 0 = sliceD b xs ∧ s.t 1 = .int .i64 n ∧ s.t 5 = .int .i64 i ∧ s.H = H ∧ s.T = T ∧ i ≤ 100 ∧ i ≤ xs.length ∧ (xs.take i).all few1 = true) 100 ⟨0, by simp [upd, argT]⟩ (fun i s h => h.2.2.2.2.2.1) ?_ (XL_mono _)
      rintro i ⟨t, H', T'⟩ ⟨h0, h1, h5, rfl, rfl, hi, hj, hc⟩
      simp only at h0 h1 h5
      by_cases ha : i < xs.length ∧ i < 100
      · obtain ⟨ha, hb'⟩ := ha
        have d1 : decide ((i : Int) < xs.length) = true := by simpa using ha
        have d2 : decide ((i : Int) < 100) = true := by simp; omega
        obtain ⟨k, i', s, m, l', he, hs1, hs2, hV'⟩ := isV_elim (hV _ (List.getElem_mem ha))
        have e1 : xs[i]? = some (mkV k i' s m l') := by rw [← he]; simp [ha]
        simp +contextual (maxSteps := 10000000) only [h0, h1, h5, d1, d2, e1, mkV, go_sem, W_draw]
        have f1 : few1 (mkV k i' s m l') = (decide (s.length ≤ 200) && decide (l'.length ≤ 30) && l'.all leafFew) := by simp only [few1, vs_mk, vl_mk]
        have bad : few1 (mkV k i' s m l') = false → fewB xs n = false := fun h => by simp only [fewB, all_false_of e1 h hb', Bool.false_and]
        refine ⟨fun q => ?_, fun q1 => ⟨fun q => ?_, fun q2 => ?_⟩⟩
        · rw [bad]; rw [f1]; simp at q ⊢; omega
        · rw [bad]; rw [f1]; simp at q ⊢; omega
        · refine W_for (fun j s => s.t 0 = sliceD b xs ∧ s.t 1 = .int .i64 n ∧ s.t 5 = .int .i64 i ∧ s.t 6 = .int .i64 j ∧ s.H = H' ∧ s.T = T' ∧ j ≤ l'.length ∧ (l'.take j).all leafFew = true) l'.length ⟨0, by simp [upd, h0, h1, h5]⟩ (fun i s h => h.2.2.2.2.2.2.1) ?_ (XL_mono _)
          rintro j ⟨t, H', T'⟩ ⟨h0, h1, h5, h6, rfl, rfl, hj2, hc2⟩
          simp only at h0 h1 h5 h6
          by_cases hb2 : j < l'.length
          · have d3 : decide ((j : Int) < l'.length) = true := by simpa using hb2
            obtain ⟨k2, i2, s2, m2, l2, he2, hs21, hs22, hV2⟩ := isV_elim (hV' _ (List.getElem_mem hb2))
            have e2 : l'[j]? = some (mkV k2 i2 s2 m2 l2) := by rw [← he2]; simp [hb2]
            have f2 : leafFew (mkV k2 i2 s2 m2 l2) = (decide (s2.length ≤ 200) && decide (l2.length = 0)) := by simp only [leafFew, vs_mk, vl_mk]
            have bad2 : leafFew (mkV k2 i2 s2 m2 l2) = false → fewB xs n = false := fun h => bad (by
              have hm : l'.all leafFew = false := by
                have := all_false_of e2 h hb2
                rwa [List.take_length] at this
              rw [f1, hm, Bool.and_false])
            simp +contextual (maxSteps := 10000000) only [h0, h1, h5, h6, d3, e1, e2, mkV, wrap_succ j (by omega), go_sem, W_draw]
            refine ⟨fun q => ?_, fun q1 => ⟨fun q => ?_, fun q2 => ⟨by omega, ?_⟩⟩⟩
            · rw [bad2]; rw [f2]; simp at q ⊢; omega
            · rw [bad2]; rw [f2]; simp only [decide_eq_true_eq, Bool.and_eq_false_iff, decide_eq_false_iff_not] at q ⊢; omega
            · rw [all_take_succ e2, hc2, f2]; simp only [decide_eq_true_eq, Bool.and_eq_true, decide_eq_false_iff_not, true_and] at q1 q2 ⊢; omega
          · have d3 : decide ((j : Int) < l'.length) = false := by simpa using hb2
            have hall : l'.all leafFew = true := by rwa [List.take_of_length_le (by omega)] at hc2
            have f3 : few1 (mkV k i' s m l') = true := by rw [f1, hall]; simp at q1 q2 ⊢; omega
            have hc3 : (xs.take (i + 1)).all few1 = true := by rw [all_take_succ e1, hc, f3]; rfl
            simp +contextual (maxSteps := 10000000) only [h0, h1, h5, h6, d3, e1, mkV, wrap_succ i (by omega), go_sem, W_draw]
            exact ⟨by omega, by omega, hc3⟩
      · have hcf : (xs.take 100).all few1 = true := by
          by_cases hx : i < xs.length
          · have : i = 100 := by omega
            rw [← this]; exact hc
          · rw [List.take_of_length_le (by omega)] at hc
            exact List.all_eq_true.2 fun x hx => List.all_eq_true.1 hc x (List.mem_of_mem_take hx)
        by_cases hx : i < xs.length
        · have d1 : decide ((i : Int) < xs.length) = true := by simpa using hx
          have d2 : decide ((i : Int) < 100) = false := by simp; omega
          simp +contextual (maxSteps := 10000000) only [h0, h1, h5, d1, d2, fewB, hcf, go_sem, W_draw]
        · have d1 : decide ((i : Int) < xs.length) = false := by simpa using hx
          simp +contextual (maxSteps := 10000000) only [h0, h1, h5, d1, fewB, hcf, go_sem, W_draw]
    · cases h
  · cases h
end GP
namespace GP
open Go Go.Proofs
set_option maxRecDepth 100000
variable [HasG Try.prog]
theorem wrap_pred (n : Nat) (h : n < 2 ^ 61) (h0 : 0 < n) : IntKind.i64.wrap ((n : Int) - 1) = ((n - 1 : Nat) : Int) := by
  rw [wrap_of _ (by omega) (by omega)]; omega
theorem all_range_succ {p : Nat → Bool} (i : Nat) : (List.range (i + 1)).all p = ((List.range i).all p && p i) := by
  rw [List.range_succ]; simp
theorem range_false_of {p : Nat → Bool} {i m : Nat} (hp : p i = false) (him : i < m) : (List.range m).all p = false := by
  cases hq : (List.range m).all p with
  | false => rfl
  | true => rw [List.all_eq_true.1 hq i (by simpa using him)] at hp; cases hp
def one1 (d : D) : Bool := plainB (vk d) (vi d) (vs d) (vl d).length
def vk0 : List D → Int
  | x :: _ => vk x
  | [] => 0
def okEl (cmp : D → D → Int) (xs : List D) (i : Nat) : Bool := match xs[i]? with
  | none => true
  | some x => one1 x && (vk x != 0) && (vk x == vk0 xs) && (i == 0 || (match xs[i - 1]? with | some y => decide (cmp y x < 0) | none => false))
def adjB (cmp : D → D → Int) (xs : List D) : Bool := (List.range xs.length).all (okEl cmp xs)
def singleD (a b : D) : Int := singleI (vk a) (vi a) (vs a) (vk b) (vi b) (vs b)
def formedB (d : D) : Bool := if vk d != 5 then one1 d else if (vi d != 0) || (vs d != []) || decide ((16 : Int) < (vl d).length) then false else adjB singleD (vl d)
def φformed : List D → Option D
  | [d] => if d.isV = true then some (.bool (formedB d)) else none
  | _ => none
theorem vk0_get {xs : List D} {k i : Int} {s : List UInt8} {n : Bool} {l : List D} (h : xs[0]? = some (mkV k i s n l)) : vk0 xs = k := by
  cases xs with
  | nil => simp at h
  | cons x xs => simp at h; subst h; rfl
theorem erase_of_isV {l : List D} (h : ∀ x ∈ l, x.isV = true) : D.eraseL l = l := isVs_erase (isVs_iff.2 h)
theorem get_isV {xs : List D} (h : ∀ x ∈ xs, x.isV = true) {i : Nat} (hi : i < xs.length) : ∃ k i' s n l, xs[i]? = some (mkV k i' s n l) ∧ s.length ≤ 2 ^ 47 ∧ l.length ≤ 2 ^ 47 ∧ (∀ x ∈ l, x.isV = true) ∧ D.eraseL l = l := by
  obtain ⟨k, i', s, n, l, he, h1, h2, h3⟩ := isV_elim (h _ (List.getElem_mem hi))
  exact ⟨k, i', s, n, l, by rw [← he]; simp [hi], h1, h2, h3, erase_of_isV h3⟩
theorem ok51 : OkAt Try.prog 51 φformed := by
  refine ok_of (l := [(89, φone), (90, φsingle)]) (.cons ok89 (.cons ok90 .nil)) fn51 fun args r h => ?_
  unfold φformed at h
  split at h
  · split at h
    · rename_i d hd
      injection h with h; subst h
      refine ⟨by simp, by simp [D.cl], fun H T => ?_⟩
      obtain ⟨k, i, s, n, xs, rfl, hs, hx, hV⟩ := isV_elim hd
      have eL := erase_of_isV hV
      have F : formedB (mkV k i s n xs) = if k != 5 then plainB k i s xs.length else if (i != 0) || (s != []) || decide ((16 : Int) < xs.length) then false else adjB singleD xs := by simp only [formedB, one1, vk_mk, vi_mk, vs_mk, vl_mk]
      rw [F]
      simp +contextual (maxSteps := 10000000) only [c51, mkV, φone, eL, go_sem, W_draw]
      intro q1 q2 q3 q4
      refine W_for (fun j s' => s'.t 1 = .ptr H.length 0 ∧ s'.t 3 = .int .i64 j ∧ s'.H = H ++ [.row [.int .i64 k, .int .i64 i, .str s, sliceD n xs]] ∧ s'.T = T ∧ j ≤ xs.length ∧ (List.range j).all (okEl singleD xs) = true) xs.length ⟨0, by simp [upd, argT]⟩ (fun i s h => h.2.2.2.2.1) ?_ (XL_mono _)
      rintro j ⟨t, H', T'⟩ ⟨h1, h3, rfl, rfl, hj, hc⟩
      simp only at h1 h3
      by_cases ha : j < xs.length
      · have d1 : decide ((j : Int) < xs.length) = true := by simpa using ha
        obtain ⟨k1, i1, s1, n1, l1, e1, hs1, hx1, hV1, eL1⟩ := get_isV hV ha
        obtain ⟨k0, i0, s0, n0, l0, e0, _⟩ := get_isV hV (show 0 < xs.length by omega)
        have fk := vk0_get e0
        by_cases hj0 : 0 < j
        · obtain ⟨k2, i2, s2, n2, l2, e2, hs2, hx2, hV2, eL2⟩ := get_isV hV (show j - 1 < xs.length by omega)
          have d2 : decide ((0 : Int) < j) = true := by simpa using hj0
          have G : okEl singleD xs j = (plainB k1 i1 s1 l1.length && (k1 != 0) && (k1 == k0) && decide (singleI k2 i2 s2 k1 i1 s1 < 0)) := by
            have : (j == 0) = false := by simp; omega
            simp only [okEl, e1, e2, fk, one1, singleD, vk_mk, vi_mk, vs_mk, vl_mk, this, Bool.false_or]
          have bad : okEl singleD xs j = false → adjB singleD xs = false := fun h => range_false_of h ha
          simp +contextual (maxSteps := 10000000) only [h1, h3, d1, d2, e0, e1, e2, mkV, φone, φsingle, eL1, eL2, wrap_pred j (by omega) hj0, wrap_succ j (by omega), hs1, hs2, Option.isSome_some, go_sem, W_draw]
          refine ⟨fun q => ?_, fun p1 => ⟨fun q => ?_, fun p2 => ⟨fun q => ?_, fun p3 => ⟨fun q => ?_, fun p4 => ⟨by omega, ?_⟩⟩⟩⟩⟩
          · rw [bad (by rw [G]; grind)]
          · rw [bad (by rw [G]; grind)]
          · rw [bad (by rw [G]; grind)]
          · rw [bad (by rw [G]; grind)]
          · rw [List.all_append, hc]
            simp only [List.all_cons, List.all_nil, G]
            grind
        · have d2 : decide ((0 : Int) < j) = false := by simpa using hj0
          have G : okEl singleD xs j = (plainB k1 i1 s1 l1.length && (k1 != 0) && (k1 == k0)) := by
            have : (j == 0) = true := by simp; omega
            simp only [okEl, e1, fk, one1, singleD, vk_mk, vi_mk, vs_mk, vl_mk, this, Bool.true_or, Bool.and_true]
          have bad : okEl singleD xs j = false → adjB singleD xs = false := fun h => range_false_of h ha
          simp +contextual (maxSteps := 10000000) only [h1, h3, d1, d2, e0, e1, mkV, φone, φsingle, eL1, wrap_succ j (by omega), hs1, Option.isSome_some, go_sem, W_draw]
          refine ⟨fun q => ?_, fun p1 => ⟨fun q => ?_, fun p2 => ⟨fun q => ?_, fun p3 => ⟨by omega, ?_⟩⟩⟩⟩
          · rw [bad (by rw [G]; grind)]
          · rw [bad (by rw [G]; grind)]
          · rw [bad (by rw [G]; grind)]
          · rw [List.all_append, hc]
            simp only [List.all_cons, List.all_nil, G]
            grind
      · have d1 : decide ((j : Int) < xs.length) = false := by simpa using ha
        have hA : adjB singleD xs = true := by
          have : j = xs.length := by omega
          subst this; exact hc
        simp +contextual (maxSteps := 10000000) only [h1, h3, d1, mkV, hA, go_sem, W_draw]
    · cases h
  · cases h
theorem putRow_app (n off : Nat) (v : D) (M : Hp) : ∀ (L : Hp) (i : Nat), putRow n off v (L ++ M) (L.length + i) = (putRow n off v M i).map (L ++ ·)
  | [], i => by simp
  | x :: L, i => by
    have e : (x :: L).length + i = (L.length + i) + 1 := by simp; omega
    rw [e, List.cons_append, putRow_s, putRow_app n off v M L i]
    cases putRow n off v M i <;> simp
@[go_sem] theorem putRow_app' (n off : Nat) (v : D) (L M : Hp) (i : Nat) : putRow n off v (L ++ M) (L.length + i) = (putRow n off v M i).map (L ++ ·) := putRow_app n off v M L i
@[go_sem] theorem putRow_app0 (n off : Nat) (v : D) (L M : Hp) : putRow n off v (L ++ M) L.length = (putRow n off v M 0).map (L ++ ·) := putRow_app n off v M L 0
def or3 (a b c : Int) : Int := if a != 0 then a else if b != 0 then b else c
def φOr : List D → Option D
  | [.sl none [.int .i64 a, .int .i64 b, .int .i64 c]] => some (.int .i64 (or3 a b c))
  | _ => none
theorem ok100 : OkAt Try.prog 100 φOr := by
  refine ok_of (l := []) .nil fn100 fun args r h => ?_
  unfold φOr at h
  split at h
  · injection h with h; subst h
    rename_i a b c
    refine ⟨by simp, by simp [D.cl], fun H T => ?_⟩
    simp +contextual (maxSteps := 10000000) only [c100, go_sem, W_draw]
    refine W_for (fun i s => s.t 3 = .int .i64 0 ∧ s.t 6 = .sl none [.int .i64 a, .int .i64 b, .int .i64 c] ∧ s.t 7 = .int .i64 3 ∧ s.t 8 = .int .i64 i ∧ s.H = H ∧ s.T = T ∧ i ≤ 3 ∧ (1 ≤ i → a = 0) ∧ (2 ≤ i → b = 0) ∧ (3 ≤ i → c = 0)) 3 ⟨0, by simp [upd, argT]⟩ (fun i s h => h.2.2.2.2.2.2.1) ?_ (XL_mono _)
    rintro i ⟨t, H', T'⟩ ⟨h3, h6, h7, h8, rfl, rfl, hi, z1, z2, z3⟩
    simp only at h3 h6 h7 h8
    have w1 : IntKind.i64.wrap 1 = 1 := by decide
    have w2 : IntKind.i64.wrap 2 = 2 := by decide
    have w3 : IntKind.i64.wrap 3 = 3 := by decide
    match i, hi with
    | 0, _ =>
      simp +contextual (maxSteps := 10000000) only [h3, h6, h7, h8, or3, w1, Int.reduceAdd, go_sem, W_draw]
      grind
    | 1, _ =>
      have := z1 (by omega); subst this
      simp +contextual (maxSteps := 10000000) only [h3, h6, h7, h8, or3, w2, Int.reduceAdd, go_sem, W_draw]
      grind
    | 2, _ =>
      have := z1 (by omega); subst this
      have := z2 (by omega); subst this
      simp +contextual (maxSteps := 10000000) only [h3, h6, h7, h8, or3, w3, Int.reduceAdd, go_sem, W_draw]
      grind
    | 3, _ =>
      have := z1 (by omega); subst this
      have := z2 (by omega); subst this
      have := z3 (by omega); subst this
      simp +contextual (maxSteps := 10000000) only [h3, h6, h7, h8, or3, go_sem, W_draw]
  · cases h
def cmpL (f : D → D → Int) : List D → List D → Int
  | [], [] => 0
  | [], _ :: _ => -1
  | _ :: _, [] => 1
  | x :: xs, y :: ys => if f x y != 0 then f x y else cmpL f xs ys
def φCF (dom : D → Bool) (f : D → D → Int) : List D → Option D
  | [l1, l2, .fn 86 [] []] => if isSl l1 = true ∧ isSl l2 = true ∧ D.isVs (elems l1) = true ∧ D.isVs (elems l2) = true ∧ (elems l1).all dom = true ∧ (elems l2).all dom = true ∧ (elems l1).length ≤ 2 ^ 47 ∧ (elems l2).length ≤ 2 ^ 47 then some (.int .i64 (cmpL f (elems l1) (elems l2))) else none
  | _ => none
theorem ok124 {φ : List D → Option D} (h13 : OkAt Try.prog 86 φ) {dom : D → Bool} {f : D → D → Int} (hφ : ∀ x y, x.isV = true → y.isV = true → dom x = true → dom y = true → φ [x, y] = some (.int .i64 (f x y))) : OkAt Try.prog 124 (φCF dom f) := by
  refine ok_of (l := [(86, φ)]) (.cons h13 .nil) fn124 fun args r h => ?_
  unfold φCF at h
  split at h
  · split at h
    · rename_i l1 l2 hl
      injection h with h; subst h
      refine ⟨by simp, by simp [D.cl], fun H T => ?_⟩
      obtain ⟨g1, g2, g3, g4, g5, g6, g7, g8⟩ := hl
      obtain ⟨b1, hb1⟩ := isSl_elim g1
      obtain ⟨b2, hb2⟩ := isSl_elim g2
      generalize elems l1 = xs at *
      generalize elems l2 = ys at *
      subst hb1; subst hb2
      have hV1 := isVs_iff.1 g3
      have hV2 := isVs_iff.1 g4
      simp +contextual (maxSteps := 10000000) only [c124, go_sem, W_draw]
      refine W_for (fun i s => s.t 0 = sliceD b1 xs ∧ s.t 1 = sliceD b2 ys ∧ s.t 2 = .fn 86 [] [] ∧ s.t 11 = sliceD b1 xs ∧ s.t 12 = .int .i64 xs.length ∧ s.t 13 = .int .i64 i ∧ (∃ L, s.H = H ++ L) ∧ s.T = T ∧ i ≤ xs.length ∧ i ≤ ys.length ∧ cmpL f (xs.drop i) (ys.drop i) = cmpL f xs ys) xs.length ⟨0, by simp [upd, argT]⟩ (fun i s h => h.2.2.2.2.2.2.2.2.1) ?_ (XL_mono _)
      rintro i ⟨t, H', T'⟩ ⟨h0, h1, h2, h11, h12, h13, ⟨L, rfl⟩, rfl, hi, hj, hc⟩
      simp only at h0 h1 h2 h11 h12 h13
      by_cases ha : i < xs.length
      · have d1 : decide ((i : Int) < xs.length) = true := by simpa using ha
        obtain ⟨k1, i1, s1, n1, q1, e1, _, _, v1, r1⟩ := get_isV hV1 ha
        by_cases hb : i < ys.length
        · have d2 : decide ((ys.length : Int) ≤ i) = false := by simp; omega
          obtain ⟨k2, i2, s2, n2, q2, e2, _, _, v2, r2⟩ := get_isV hV2 hb
          have x1 : xs[i] = mkV k1 i1 s1 n1 q1 := by rw [List.getElem?_eq_getElem ha] at e1; exact Option.some.inj e1
          have x2 : ys[i] = mkV k2 i2 s2 n2 q2 := by rw [List.getElem?_eq_getElem hb] at e2; exact Option.some.inj e2
          have p := hφ _ _ (hV1 _ (List.getElem_mem ha)) (hV2 _ (List.getElem_mem hb)) (List.all_eq_true.1 g5 _ (List.getElem_mem ha)) (List.all_eq_true.1 g6 _ (List.getElem_mem hb))
          rw [List.drop_eq_getElem_cons ha, List.drop_eq_getElem_cons hb, cmpL] at hc
          rw [x1, x2] at p hc
          generalize f (mkV k1 i1 s1 n1 q1) (mkV k2 i2 s2 n2 q2) = F at p hc
          simp only [mkV] at p
          simp +contextual (maxSteps := 10000000) only [h0, h1, h2, h11, h12, h13, d1, d2, e1, e2, mkV, p, r1, r2, wrap_succ i (by omega), go_sem, W_draw]
          refine ⟨fun q => ?_, fun q => ⟨⟨_, rfl⟩, by omega, by omega, ?_⟩⟩
          · rw [if_pos q] at hc; rw [hc]
          · rw [if_neg (by rw [q]; decide)] at hc; exact hc
        · have d2 : decide ((ys.length : Int) ≤ i) = true := by simp; omega
          rw [List.drop_eq_getElem_cons ha, List.drop_eq_nil_of_le (by omega : ys.length ≤ i), cmpL] at hc
          simp +contextual (maxSteps := 10000000) only [h0, h1, h2, h11, h12, h13, d1, d2, e1, mkV, ← hc, go_sem, W_draw]
      · have d1 : decide ((i : Int) < xs.length) = false := by simpa using ha
        rw [List.drop_eq_nil_of_le (by omega : xs.length ≤ i)] at hc
        by_cases hb : i < ys.length
        · have d2 : decide ((xs.length : Int) < ys.length) = true := by simp; omega
          rw [List.drop_eq_getElem_cons hb, cmpL] at hc
          simp +contextual (maxSteps := 10000000) only [h0, h1, h2, h11, h12, h13, d1, d2, ← hc, go_sem, W_draw]
        · have d2 : decide ((xs.length : Int) < ys.length) = false := by simp; omega
          rw [List.drop_eq_nil_of_le (by omega : ys.length ≤ i), cmpL] at hc
          simp +contextual (maxSteps := 10000000) only [h0, h1, h2, h11, h12, h13, d1, d2, ← hc, go_sem, W_draw]
    · cases h
  · cases h
def ordW (f : D → D → Int) (a b : D) : Int :=
  if or3 (cmpI (vk a) (vk b)) (cmpI (vi a) (vi b)) (cmpS (vs a) (vs b)) != 0 then or3 (cmpI (vk a) (vk b)) (cmpI (vi a) (vi b)) (cmpS (vs a) (vs b)) else cmpL f (vl a) (vl b)
def φOrd (dom : D → Bool) (f : D → D → Int) : List D → Option D
  | [a, b] => if a.isV = true ∧ b.isV = true ∧ (vl a).all dom = true ∧ (vl b).all dom = true then some (.int .i64 (ordW f a b)) else none
  | _ => none
theorem ok86 {dom : D → Bool} {f : D → D → Int} (h38 : OkAt Try.prog 124 (φCF dom f)) : OkAt Try.prog 86 (φOrd dom f) := by
  refine ok_of (l := [(122, φnumbers), (123, φnumbers), (101, φcmp), (100, φOr), (124, φCF dom f)]) (.cons ok122 (.cons ok123 (.cons ok101 (.cons ok100 (.cons h38 .nil))))) fn86 fun args r h => ?_
  unfold φOrd at h
  split at h
  · split at h
    · rename_i a b hab
      injection h with h; subst h
      refine ⟨by simp, by simp [D.cl], fun H T => ?_⟩
      obtain ⟨ha, hb, hda, hdb⟩ := hab
      obtain ⟨k1, i1, s1, n1, l1, rfl, z1, y1, hV1⟩ := isV_elim ha
      obtain ⟨k2, i2, s2, n2, l2, rfl, z2, y2, hV2⟩ := isV_elim hb
      simp only [vl_mk] at hda hdb
      have r1 := erase_of_isV hV1
      have r2 := erase_of_isV hV2
      have p : φCF dom f [sliceD n1 l1, sliceD n2 l2, .fn 86 [] []] = some (.int .i64 (cmpL f l1 l2)) := by
        simp only [φCF, isSl_sliceD, elems_sliceD, isVs_iff.2 hV1, isVs_iff.2 hV2, hda, hdb, y1, y2, and_self, if_true]
      have q : ordW f (mkV k1 i1 s1 n1 l1) (mkV k2 i2 s2 n2 l2) = if or3 (cmpI k1 k2) (cmpI i1 i2) (cmpS s1 s2) != 0 then or3 (cmpI k1 k2) (cmpI i1 i2) (cmpS s1 s2) else cmpL f l1 l2 := by
        simp only [ordW, vk_mk, vi_mk, vs_mk, vl_mk]
      rw [q]
      simp +contextual (maxSteps := 10000000) only [c86, mkV, φnumbers, φcmp, φOr, r1, r2, p, fit_eq, go_sem, W_draw]
    · cases h
  · cases h
theorem ok86none : OkAt Try.prog 86 (fun _ => none) := fun _ _ h => by cases h
def dom0 (_ : D) : Bool := false
def f0 (_ _ : D) : Int := 0
def ord0 := ordW f0
theorem ok86a : OkAt Try.prog 86 (φOrd dom0 f0) := ok86 (ok124 ok86none (fun _ _ _ _ h => by cases h))
def leaf (d : D) : Bool := (vl d).isEmpty
theorem ord_leaf {x y : D} (hx : x.isV = true) (hy : y.isV = true) (h1 : leaf x = true) (h2 : leaf y = true) : φOrd dom0 f0 [x, y] = some (.int .i64 (ord0 x y)) := by
  simp only [leaf, List.isEmpty_iff] at h1 h2
  simp [φOrd, hx, hy, h1, h2, ord0]
def formedV (d : D) : Bool := if vk d != 5 then one1 d else if adjB ord0 (vl d) then (vi d == 0) && (vs d == []) && decide (((vl d).length : Int) ≤ 16) else false
def φFormed : List D → Option D
  | [d] => if d.isV = true then some (.bool (formedV d)) else none
  | _ => none
theorem plain_leaf {k i : Int} {s : List UInt8} {n : Nat} (h : plainB k i s n = true) : n = 0 := by
  unfold plainB at h
  by_cases hn : (0 : Int) < n
  · simp [hn] at h
    exact h.1
  · omega
theorem ok53 : OkAt Try.prog 53 φFormed := by
  refine ok_of (l := [(91, φplain), (86, φOrd dom0 f0)]) (.cons ok91 (.cons ok86a .nil)) fn53 fun args r h => ?_
  unfold φFormed at h
  split at h
  · split at h
    · rename_i d hd
      injection h with h; subst h
      refine ⟨by simp, by simp [D.cl], fun H T => ?_⟩
      obtain ⟨k, i, s, n, xs, rfl, hs, hx, hV⟩ := isV_elim hd
      have eL := erase_of_isV hV
      have F : formedV (mkV k i s n xs) = if k != 5 then plainB k i s xs.length else if adjB ord0 xs then (i == 0) && (s == []) && decide ((xs.length : Int) ≤ 16) else false := by simp only [formedV, one1, vk_mk, vi_mk, vs_mk, vl_mk]
      rw [F]
      simp +contextual (maxSteps := 10000000) only [c53, mkV, φplain, eL, go_sem, W_draw]
      intro q1
      refine W_for (fun j s' => s'.t 1 = .ptr H.length 0 ∧ s'.t 11 = sliceD n xs ∧ s'.t 12 = .int .i64 xs.length ∧ s'.t 13 = .int .i64 j ∧ (∃ L, s'.H = H ++ .row [.int .i64 k, .int .i64 i, .str s, sliceD n xs] :: L) ∧ s'.T = T ∧ j ≤ xs.length ∧ (List.range j).all (okEl ord0 xs) = true) xs.length ⟨0, by simp [upd, argT]⟩ (fun i s h => h.2.2.2.2.2.2.1) ?_ (XL_mono _)
      rintro j ⟨t, H', T'⟩ ⟨h1, h11, h12, h13, ⟨L, rfl⟩, rfl, hj, hc⟩
      simp only at h1 h11 h12 h13
      by_cases ha : j < xs.length
      · have d1 : decide ((j : Int) < xs.length) = true := by simpa using ha
        obtain ⟨k1, i1, s1, n1, l1, e1, hs1, hx1, hV1, eL1⟩ := get_isV hV ha
        obtain ⟨k0, i0, s0, n0, l0, e0, _⟩ := get_isV hV (show 0 < xs.length by omega)
        have fk := vk0_get e0
        have bad : okEl ord0 xs j = false → adjB ord0 xs = false := fun h => range_false_of h ha
        by_cases hj0 : 0 < j
        · obtain ⟨k2, i2, s2, n2, l2, e2, hs2, hx2, hV2, eL2⟩ := get_isV hV (show j - 1 < xs.length by omega)
          have d2 : decide ((0 : Int) < j) = true := by simpa using hj0
          have pv : okEl ord0 xs (j - 1) = true := List.all_eq_true.1 hc (j - 1) (by simp; omega)
          have lf2 : l2 = [] := by
            simp only [okEl, e2, one1, vk_mk, vi_mk, vs_mk, vl_mk, Bool.and_eq_true] at pv
            exact List.length_eq_zero_iff.1 (plain_leaf pv.1.1.1)
          subst lf2
          generalize ho : ord0 (mkV k2 i2 s2 n2 []) (mkV k1 i1 s1 n1 l1) = o
          have G : okEl ord0 xs j = (plainB k1 i1 s1 l1.length && (k1 != 0) && (k1 == k0) && decide (o < 0)) := by
            have : (j == 0) = false := by simp; omega
            simp only [okEl, e1, e2, fk, one1, ho, vk_mk, vi_mk, vs_mk, vl_mk, this, Bool.false_or]
          by_cases hp : plainB k1 i1 s1 l1.length = true
          · have lf1 : l1 = [] := List.length_eq_zero_iff.1 (plain_leaf hp)
            subst lf1
            have p := ord_leaf (x := mkV k2 i2 s2 n2 []) (y := mkV k1 i1 s1 n1 []) (isV_mk hs2 (by simp) (by simp)) (isV_mk hs1 (by simp) (by simp)) (by simp [leaf, vl_mk]) (by simp [leaf, vl_mk])
            rw [ho] at p
            simp only [mkV] at p
            simp only [List.length_nil] at hp G
            simp +contextual (maxSteps := 10000000) only [h1, h11, h12, h13, d1, d2, e0, e1, e2, mkV, φplain, p, hp, wrap_pred j (by omega) hj0, wrap_succ j (by omega), go_sem, W_draw]
            refine ⟨fun q => ?_, fun p2 => ⟨fun q => ?_, fun p3 => ⟨fun q => ?_, fun p4 => ⟨⟨_, rfl⟩, by omega, ?_⟩⟩⟩⟩
            · rw [bad (by rw [G]; grind)]; rfl
            · rw [bad (by rw [G]; grind)]; rfl
            · rw [bad (by rw [G]; grind)]; rfl
            · rw [List.all_append, hc]
              simp only [List.all_cons, List.all_nil, G]
              grind
          · have hp' : plainB k1 i1 s1 l1.length = false := by simpa using hp
            have hb := bad (by rw [G, hp']; rfl)
            simp +contextual (maxSteps := 10000000) only [h1, h11, h12, h13, d1, d2, e0, e1, e2, mkV, φplain, hp', eL1, hb, go_sem, W_draw]
        · have d2 : decide ((0 : Int) < j) = false := by simpa using hj0
          have G : okEl ord0 xs j = (plainB k1 i1 s1 l1.length && (k1 != 0) && (k1 == k0)) := by
            have : (j == 0) = true := by simp; omega
            simp only [okEl, e1, fk, one1, vk_mk, vi_mk, vs_mk, vl_mk, this, Bool.true_or, Bool.and_true]
          simp +contextual (maxSteps := 10000000) only [h1, h11, h12, h13, d1, d2, e0, e1, mkV, φplain, eL1, wrap_succ j (by omega), go_sem, W_draw]
          refine ⟨fun q => ?_, fun p1 => ⟨fun q => ?_, fun p2 => ⟨fun q => ?_, fun p3 => ⟨⟨_, rfl⟩, by omega, ?_⟩⟩⟩⟩
          · rw [bad (by rw [G]; grind)]; rfl
          · rw [bad (by rw [G]; grind)]; rfl
          · rw [bad (by rw [G]; grind)]; rfl
          · rw [List.all_append, hc]
            simp only [List.all_cons, List.all_nil, G]
            grind
      · have d1 : decide ((j : Int) < xs.length) = false := by simpa using ha
        have hA : adjB ord0 xs = true := by
          have : j = xs.length := by omega
          subst this; exact hc
        simp +contextual (maxSteps := 10000000) only [h1, h11, h12, h13, d1, mkV, hA, go_sem, W_draw]
    · cases h
  · cases h
end GP
namespace GP
open Go Go.Proofs
set_option maxRecDepth 100000
variable [HasG Try.prog]
theorem plain_facts {k i : Int} {s : List UInt8} {n : Nat} (h : plainB k i s n = true) : n = 0 ∧ (k = 3 → i = 0) ∧ (k ≠ 3 → s = []) ∧ 0 ≤ k ∧ k ≤ 4 := by
  refine ⟨plain_leaf h, ?_, ?_, ?_, ?_⟩ <;> unfold plainB at h <;> grind
theorem cmpI_self (a : Int) : cmpI a a = 0 := by simp [cmpI]
theorem cmpI_ne {a b : Int} (h : a ≠ b) : cmpI a b ≠ 0 := by unfold cmpI; split <;> (try split) <;> omega
theorem or3_eq {a b : D} (ha : one1 a = true) (hb : one1 b = true) : or3 (cmpI (vk a) (vk b)) (cmpI (vi a) (vi b)) (cmpS (vs a) (vs b)) = singleD a b := by
  obtain ⟨_, a1, a2, _⟩ := plain_facts ha
  obtain ⟨_, b1, b2, _⟩ := plain_facts hb
  simp only [or3, singleD, singleI]
  by_cases hk : vk a = vk b
  · by_cases h3 : vk a = 3
    · have e1 := a1 h3
      have e2 := b1 (by omega)
      simp [hk, cmpI_self, e1, e2, show vk b = 3 by omega]
    · have e1 := a2 h3
      have e2 := b2 (by omega)
      have h3' : ¬ vk b = 3 := by omega
      simp only [hk, cmpI_self, e1, e2, cmpS]
      simp [h3']
      intro h; rw [h]
  · have := cmpI_ne hk
    simp [hk, this]
theorem ord_single {a b : D} (ha : one1 a = true) (hb : one1 b = true) (f : D → D → Int) : ordW f a b = singleD a b := by
  have la : vl a = [] := List.length_eq_zero_iff.1 (plain_facts ha).1
  have lb : vl b = [] := List.length_eq_zero_iff.1 (plain_facts hb).1
  unfold ordW
  rw [or3_eq ha hb, la, lb]
  simp only [cmpL]
  split
  · rfl
  · rename_i h; simpa using Eq.symm (show singleD a b = 0 by simpa using h)
theorem okEl_same {xs : List D} {i : Nat} (hp : 0 < i → okEl ord0 xs (i - 1) = true) : okEl ord0 xs i = okEl singleD xs i := by
  unfold okEl
  cases hx : xs[i]? with
  | none => rfl
  | some x =>
    simp only
    by_cases h0 : i = 0
    · simp [h0]
    · have hq := hp (by omega)
      unfold okEl at hq
      cases hy : xs[i - 1]? with
      | none => rfl
      | some y =>
        rw [hy] at hq
        simp only [Bool.and_eq_true] at hq
        by_cases h1 : one1 x = true
        · have : ord0 y x = singleD y x := ord_single hq.1.1.1 h1 f0
          simp only [this]
        · simp [h1]
theorem adj_same (xs : List D) : ∀ n, (List.range n).all (okEl ord0 xs) = (List.range n).all (okEl singleD xs)
  | 0 => rfl
  | n + 1 => by
    rw [all_range_succ, all_range_succ, ← adj_same xs n]
    cases hq : (List.range n).all (okEl ord0 xs) with
    | false => rfl
    | true =>
      simp only [Bool.true_and]
      exact okEl_same fun h0 => List.all_eq_true.1 hq (n - 1) (by simp; omega)
theorem formed_same (d : D) : formedV d = formedB d := by
  unfold formedV formedB
  have : adjB ord0 (vl d) = adjB singleD (vl d) := adj_same _ _
  rw [this]
  grind
end GP
namespace GP
open Go Go.Proofs
set_option maxRecDepth 100000
variable [HasG Try.prog]
def sameEl (x y : D) : Bool := (vk x == vk y) && (vi x == vi y) && (vs x == vs y) && !decide ((0 : Int) < (vl x).length) && !decide ((0 : Int) < (vl y).length)
def okSame (xs ys : List D) (i : Nat) : Bool := match xs[i]?, ys[i]? with
  | some x, some y => sameEl x y
  | _, _ => true
def sameB (a b : D) : Bool := if (vk a != vk b) || (vi a != vi b) || (vs a != vs b) || !((vl a).length == (vl b).length) then false else (List.range (vl a).length).all (okSame (vl a) (vl b))
def φSame : List D → Option D
  | [a, b] => if a.isV = true ∧ b.isV = true then some (.bool (sameB a b)) else none
  | _ => none
theorem bne_len (a b : Nat) : ((a : Int) != (b : Int)) = !(a == b) := by
  rw [Bool.eq_iff_iff]; simp; omega
set_option maxHeartbeats 2000000 in
theorem ok38 : OkAt Try.prog 38 φSame := by
  refine ok_of (l := []) .nil fn38 fun args r h => ?_
  unfold φSame at h
  split at h
  · split at h
    · rename_i a b hab
      injection h with h; subst h
      refine ⟨by simp, by simp [D.cl], fun H T => ?_⟩
      obtain ⟨ha, hb⟩ := hab
      obtain ⟨k1, i1, s1, n1, xs, rfl, z1, y1, hV1⟩ := isV_elim ha
      obtain ⟨k2, i2, s2, n2, ys, rfl, z2, y2, hV2⟩ := isV_elim hb
      have hS : sameB (mkV k1 i1 s1 n1 xs) (mkV k2 i2 s2 n2 ys) = if (k1 != k2) || (i1 != i2) || (s1 != s2) || !(xs.length == ys.length) then false else (List.range xs.length).all (okSame xs ys) := by simp only [sameB, vk_mk, vi_mk, vs_mk, vl_mk]
      rw [hS]
      have bl := bne_len xs.length ys.length
      simp +contextual (maxSteps := 10000000) only [c38, mkV, bl, go_sem, W_draw]
      intro q1 q2 q3 q4
      have hl : xs.length = ys.length := by simpa using q4
      refine W_for (fun j s' => s'.t 2 = .ptr H.length 0 ∧ s'.t 3 = .ptr (H.length + 1) 0 ∧ s'.t 5 = .int .i64 j ∧ Ext (H ++ [.row [.int .i64 k1, .int .i64 i1, .str s1, sliceD n1 xs], .row [.int .i64 k2, .int .i64 i2, .str s2, sliceD n2 ys]]) s'.H ∧ s'.T = T ∧ j ≤ xs.length ∧ (List.range j).all (okSame xs ys) = true) xs.length ⟨0, by simp [upd, argT, ext_self]⟩ (fun i s h => h.2.2.2.2.2.1) ?_ (XL_mono _)
      rintro j ⟨t, B, T'⟩ ⟨h2, h3, h5, hE, rfl, hj, hc⟩
      simp only at h2 h3 h5 hE
      have b1 := hE.get (o := H.length) (by simp; rfl)
      have b2 := hE.get (o := H.length + 1) (by simp; rfl)
      by_cases ha : j < xs.length
      · have d1 : decide ((j : Int) < xs.length) = true := by simpa using ha
        obtain ⟨k3, i3, s3, n3, l3, e3, hs3, hx3, hV3, eL3⟩ := get_isV hV1 ha
        obtain ⟨k4, i4, s4, n4, l4, e4, hs4, hx4, hV4, eL4⟩ := get_isV hV2 (show j < ys.length by omega)
        have G : okSame xs ys j = ((k3 == k4) && (i3 == i4) && (s3 == s4) && !decide ((0 : Int) < l3.length) && !decide ((0 : Int) < l4.length)) := by
          simp only [okSame, e3, e4, sameEl, vk_mk, vi_mk, vs_mk, vl_mk]
        have bad : okSame xs ys j = false → (List.range xs.length).all (okSame xs ys) = false := fun h => range_false_of h ha
        simp +contextual (maxSteps := 10000000) only [h2, h3, h5, d1, e3, e4, mkV, wrap_succ j (by omega), rdAt_E b1, rdAt_E b2, rdAt_Ea b1, rdAt_Ea b2, hE.ta, leaves_Ea hE.pre (ExtT.refl _), go_sem, W_draw]
        simp only [List.all_append, hc, List.all_cons, List.all_nil, Bool.true_and, Bool.and_true, D.bool.injEq]
        rw [G] at bad ⊢
        clear G
        repeat' (first | apply And.intro | intro _)
        all_goals first | omega | grind
      · have d1 : decide ((j : Int) < xs.length) = false := by simpa using ha
        have hA : (List.range xs.length).all (okSame xs ys) = true := by
          have : j = xs.length := by omega
          subst this; exact hc
        simp +contextual (maxSteps := 10000000) only [h2, h3, h5, d1, mkV, hA, rdAt_E b1, rdAt_E b2, leaves_E hE.pre (ExtT.refl _), go_sem, W_draw]
    · cases h
  · cases h
end GP
namespace GP
open Go
open Rd O
set_option maxRecDepth 100000
variable {P : Program} [HasG P]
@[go_sem high] theorem iab_nat (sz : Nat) (b : Bool) (xs : List D) (k : IntKind) (i : Nat) : ia sz (sliceD b xs) (.int k (i : Int)) = iaE sz xs[i]? := by
  rw [ia_sliceD, if_pos (by omega)]; simp
@[go_sem high] theorem iab_nat' (sz : Nat) (t : Option Nat) (xs : List D) (k : IntKind) (i : Nat) : ia sz (.sl t xs) (.int k (i : Int)) = iaE sz xs[i]? := by
  rw [ia_sl, if_pos (by omega)]; simp
def isLs (p : D → Prop) (d : D) : Prop := ∃ n l, d = sliceD n l ∧ l.length ≤ 2 ^ 47 ∧ ∀ x ∈ l, p x
theorem isLs_nils (p : D → Prop) : isLs p .nils := ⟨true, [], rfl, by simp, by simp⟩
theorem eraseL_id {l : List D} (h : ∀ x ∈ l, x.erase = x) : D.eraseL l = l := by
  rw [eraseL_map]
  exact (List.map_congr_left h).trans (List.map_id'' (fun _ => rfl) l)
theorem isLs_erase {p : D → Prop} (hp : ∀ x, p x → x.erase = x) {d : D} (h : isLs p d) : d.erase = d := by
  obtain ⟨n, l, rfl, _, hx⟩ := h
  rw [erase_sliceD, eraseL_id fun x hl => hp x (hx x hl)]
theorem wrapIY (a : Int) : IntKind.i64.wrap a = if a % 2 ^ 64 ≥ 2 ^ 63 then a % 2 ^ 64 - 2 ^ 64 else a % 2 ^ 64 := by simp [IntKind.wrap, IntKind.bits, IntKind.signed]
theorem wrap_inY {a : Int} (h1 : -(2 ^ 63) ≤ a) (h2 : a < 2 ^ 63) : IntKind.i64.wrap a = a := by rw [wrapIY]; split <;> omega
theorem wrap_natY (n : Nat) (h : n ≤ 2 ^ 62) : IntKind.i64.wrap ((n : Int) + 1) = ((n + 1 : Nat) : Int) := by
  rw [wrap_inY (by omega) (by omega)]; rfl
structure El (ag : Bool) (sz : Nat) (x : D) : Prop where
  erase : x.erase = x
  len : x.cells.length = sz
  ld : ld ag sz (some x.cells) = some x
theorem El.agg {sz : Nat} {x : D} (h1 : x.erase = x) (h2 : x.cells.length = sz) (h3 : D.agg x.cells = x) : El true sz x :=
  ⟨h1, h2, by simp only [GP.ld, if_true]; rw [if_pos (by omega), List.take_of_length_le (by omega), h3]⟩
def isT : Option D → Bool
  | some (.bool b) => b
  | _ => false
def idxP (p : D → Bool) (l : List D) : Int := match l.findIdx? p with
  | some i => i
  | none => -1
def idxC (ag : Bool) (sz : Nat) : C :=
  (.seq (.reg [⟨(some 4), none, .mv (k (.int .i64 0))⟩])
  (.seq (.seq (.reg [⟨(some 6), none, .mv (t 0)⟩, ⟨(some 7), none, .len (t 6)⟩, ⟨(some 8), none, .mv (k (.int .i64 0))⟩])
  (.block 0
  (.loop
  (.seq (.reg [⟨(some 9), none, .bin .lss (t 8) (t 7)⟩])
  (.seq (.cond (t 9)
  .skip
  (.exit 0))
  (.seq (.block 1
  (.seq (.reg [⟨(some 10), none, .mv (t 8)⟩, ⟨(some 5), none, .mv (t 10)⟩])
  (.seq (.reg [⟨(some 11), none, .mv (t 1)⟩, ⟨(some 12), none, .mv (t 0)⟩, ⟨(some 13), none, .mv (t 5)⟩, ⟨(some 14), none, .iaddr sz (t 12) (t 13)⟩, ⟨(some 15), none, .load ag sz (t 14)⟩, ⟨(some 16), none, .pcall (t 11) [(t 15)]⟩])
  (.cond (t 16)
  (.seq (.reg [⟨(some 17), none, .mv (t 5)⟩, ⟨(some 4), none, .mv (t 17)⟩])
  .ret)
  .skip))))
  (.reg [⟨(some 18), none, .bin .add (t 8) (k (.int .i64 1))⟩, ⟨(some 8), none, .mv (t 18)⟩])))))))
  (.seq (.reg [⟨(some 4), none, .mv (k (.int .i64 (-1)))⟩])
  .ret)))
open Classical in
noncomputable def φidx (f : FuncId) (φf : Hp → List D → Option D) (good : D → Prop) (H : Hp) : List D → Option D
  | [l, .fn g [] cap] => if g = f ∧ isLs good l ∧ D.eraseL cap = cap ∧ ∀ x ∈ elems l, ∃ b, φf H (x :: cap) = some (.bool b) then some (.int .i64 (idxP (fun x => isT (φf H (x :: cap))) (elems l))) else none
  | _ => none
def Mo (φf : Hp → List D → Option D) : Prop := ∀ H H' a r, Hle H H' → φf H a = some r → φf H' a = some r
theorem Mo.const (φ : List D → Option D) : Mo (fun _ => φ) := fun _ _ _ _ _ h => h
theorem idxP_congr {p q : D → Bool} {l : List D} (h : ∀ x ∈ l, p x = q x) : idxP p l = idxP q l := by
  unfold idxP
  have : l.findIdx? p = l.findIdx? q := by
    induction l with
    | nil => rfl
    | cons a l ih =>
      simp only [List.findIdx?_cons, h a (by simp), ih (fun x hx => h x (by simp [hx]))]
  rw [this]
theorem φidx_mono {f : FuncId} {φf : Hp → List D → Option D} (hm : Mo φf) (good : D → Prop) : Mo (φidx f φf good) := by
  intro H H' a r hl h
  unfold φidx at h ⊢
  split at h
  · rename_i l g cap
    split at h
    · rename_i hc
      obtain ⟨h1, h2, h3, h4⟩ := hc
      have h4' : ∀ x ∈ elems l, ∃ b, φf H' (x :: cap) = some (.bool b) := fun x hx => by
        obtain ⟨b, hb⟩ := h4 x hx
        exact ⟨b, hm _ _ _ _ hl hb⟩
      rw [if_pos ⟨h1, h2, h3, h4'⟩, ← h]
      congr 2
      refine idxP_congr fun x hx => ?_
      obtain ⟨b, hb⟩ := h4 x hx
      rw [hb, hm _ _ _ _ hl hb]
    · cases h
  · cases h
theorem findIdx_at {p : D → Bool} : ∀ {l : List D} {i : Nat} {x : D}, l[i]? = some x → p x = true → (∀ (j : Nat) y, j < i → l[j]? = some y → p y = false) → l.findIdx? p = some i
  | a :: l, 0, x, h, hp, _ => by simp at h; subst h; simp [List.findIdx?_cons, hp]
  | a :: l, i + 1, x, h, hp, hn => by
    have h0 := hn 0 a (by omega) rfl
    have := findIdx_at (l := l) (i := i) (x := x) (by simpa using h) hp (fun j y hj hy => hn (j + 1) y (by omega) (by simpa using hy))
    simp [List.findIdx?_cons, h0, this]
theorem findIdx_no {p : D → Bool} : ∀ {l : List D}, (∀ (j : Nat) y, l[j]? = some y → p y = false) → l.findIdx? p = none
  | [], _ => rfl
  | a :: l, h => by
    have h0 := h 0 a rfl
    have := findIdx_no (l := l) (fun j y hy => h (j + 1) y (by simpa using hy))
    simp [List.findIdx?_cons, h0, this]
theorem okIdx {ag : Bool} {sz : Nat} {N : FuncId} (hf : Fn P N 19 [.inl 4] (idxC ag sz)) {f : FuncId} {φf : Hp → List D → Option D} (hφ : OkAtH P f φf) (hm : Mo φf) {good : D → Prop} (hg : ∀ x, good x → El ag sz x) : OkAtH P N (φidx f φf good) := by
  have M : MonoH [(f, φf)] := .cons hm .nil
  refine okH_of (l := []) (m := [(f, φf)]) .nil (.cons hφ .nil) hf fun H args r h => ?_
  unfold φidx at h
  split at h
  · rename_i l g cap
    split at h
    · rename_i hc
      obtain ⟨rfl, ⟨n, xs, rfl, hl, hx⟩, h3, h4⟩ := hc
      rw [elems_sliceD] at h h4
      injection h with h; subst h
      refine ⟨by simp, by simp [D.cl], fun T => ?_⟩
      simp +contextual (maxSteps := 10000000) only [idxC, go_sem, W_draw]
      refine W_for (fun i s => s.t 0 = sliceD n xs ∧ s.t 1 = .fn g [] cap ∧ s.t 6 = sliceD n xs ∧ s.t 7 = .int .i64 xs.length ∧ s.t 8 = .int .i64 i ∧ s.H = H ∧ s.T = T ∧ i ≤ xs.length ∧ ∀ (j : Nat) x, j < i → xs[j]? = some x → isT (φf H (x :: cap)) = false) xs.length ⟨0, by simp [upd, argT]⟩ (fun i s h => h.2.2.2.2.2.2.2.1) ?_ (XM_mono _ _)
      rintro i ⟨t, H', T'⟩ ⟨h0, h1, h6, h7, h8, rfl, rfl, hi, hc⟩
      simp only at h0 h1 h6 h7 h8
      by_cases ha : i < xs.length
      · have d1 : decide ((i : Int) < xs.length) = true := by simpa using ha
        have e : xs[i]? = some xs[i] := by simp [ha]
        have hxi := hx _ (List.getElem_mem ha)
        obtain ⟨b, hb⟩ := h4 _ (List.getElem_mem ha)
        have E := hg _ hxi
        generalize xs[i] = x at *
        have hle := E.len
        have hld := E.ld
        have her := E.erase
        cases b with
        | true =>
          have hI : idxP (fun x => isT (φf H' (x :: cap))) xs = i := by
            unfold idxP
            rw [findIdx_at e (by rw [hb]; rfl) hc]
          simp +contextual (maxSteps := 10000000) only [h0, h1, h6, h7, h8, d1, e, hle, hld, her, h3, hb, hI, wrap_natY i (by omega), pcallH M, lookH_cons, lookH_nil, orK_n, go_sem, W_draw]
        | false =>
          have nx : ∀ (j : Nat) x, j < i + 1 → xs[j]? = some x → isT (φf H' (x :: cap)) = false := fun j y hj hy => by
            by_cases hji : j = i
            · subst hji; rw [e] at hy; injection hy with hy; subst hy; rw [hb]; rfl
            · exact hc j y (by omega) hy
          simp +contextual (maxSteps := 10000000) only [h0, h1, h6, h7, h8, d1, e, hle, hld, her, h3, hb, wrap_natY i (by omega), pcallH M, lookH_cons, lookH_nil, orK_n, go_sem, W_draw]
          exact ⟨by omega, nx⟩
      · have d1 : decide ((i : Int) < xs.length) = false := by simpa using ha
        have hI : idxP (fun x => isT (φf H' (x :: cap))) xs = -1 := by
          unfold idxP
          rw [findIdx_no (fun j y hy => hc j y (by
            rcases Nat.lt_or_ge j i with h' | h'
            · exact h'
            · rw [List.getElem?_eq_none (by omega)] at hy; cases hy) hy)]
        simp +contextual (maxSteps := 10000000) only [h0, h1, h6, h7, h8, d1, hI, go_sem, W_draw]
    · cases h
  · cases h
def cfC (g : FuncId) : C :=
  (.seq (.reg [⟨(some 4), none, .mv (k (.bool false))⟩])
  (.seq (.reg [⟨(some 5), none, .mv (t 0)⟩, ⟨(some 6), none, .mv (t 1)⟩, ⟨(some 7), none, .pcall (k (.fn g [] [])) [(t 5), (t 6)]⟩, ⟨(some 8), none, .bin .geq (t 7) (k (.int .i64 0))⟩, ⟨(some 4), none, .mv (t 8)⟩])
  .ret))
open Classical in
noncomputable def φcf (f : FuncId) (φf : Hp → List D → Option D) (good : D → Prop) (H : Hp) : List D → Option D
  | [l, .fn g [] cap] => if g = f ∧ isLs good l ∧ D.eraseL cap = cap ∧ ∀ x ∈ elems l, ∃ b, φf H (x :: cap) = some (.bool b) then some (.bool ((elems l).any (fun x => isT (φf H (x :: cap))))) else none
  | _ => none
theorem idxP_any (p : D → Bool) (l : List D) : decide ((0 : Int) ≤ idxP p l) = l.any p := by
  unfold idxP
  cases h : l.findIdx? p with
  | some i =>
    have : l.any p = true := by
      rw [List.findIdx?_eq_some_iff_getElem] at h
      obtain ⟨h1, h2, _⟩ := h
      exact List.any_eq_true.2 ⟨_, List.getElem_mem h1, h2⟩
    rw [this]; simp
  | none =>
    have : l.any p = false := by
      rw [List.findIdx?_eq_none_iff] at h
      exact List.any_eq_false.2 fun x hx => by simp [h x hx]
    rw [this]; rfl
theorem any_congr' {p q : D → Bool} {l : List D} (h : ∀ x ∈ l, p x = q x) : l.any p = l.any q := by
  induction l with
  | nil => rfl
  | cons a l ih => simp only [List.any_cons, h a (by simp), ih (fun x hx => h x (by simp [hx]))]
theorem φcf_mono {f : FuncId} {φf : Hp → List D → Option D} (hm : Mo φf) (good : D → Prop) : Mo (φcf f φf good) := by
  intro H H' a r hl h
  unfold φcf at h ⊢
  split at h
  · rename_i l g cap
    split at h
    · rename_i hc
      obtain ⟨h1, h2, h3, h4⟩ := hc
      have h4' : ∀ x ∈ elems l, ∃ b, φf H' (x :: cap) = some (.bool b) := fun x hx => by
        obtain ⟨b, hb⟩ := h4 x hx
        exact ⟨b, hm _ _ _ _ hl hb⟩
      rw [if_pos ⟨h1, h2, h3, h4'⟩, ← h]
      congr 2
      refine any_congr' fun x hx => ?_
      obtain ⟨b, hb⟩ := h4 x hx
      rw [hb, hm _ _ _ _ hl hb]
    · cases h
  · cases h
theorem okCf {N M : FuncId} (hf : Fn P N 9 [.inl 4] (cfC M)) {f : FuncId} {φf : Hp → List D → Option D} {good : D → Prop} (hge : ∀ x, good x → x.erase = x) (hi : OkAtH P M (φidx f φf good)) (hm : Mo φf) : OkAtH P N (φcf f φf good) := by
  have MM : MonoH [(M, φidx f φf good)] := .cons (φidx_mono hm good) .nil
  refine okH_of (l := []) (m := [(M, φidx f φf good)]) .nil (.cons hi .nil) hf fun H args r h => ?_
  unfold φcf at h
  split at h
  · rename_i l g cap
    split at h
    · rename_i hc
      have p : φidx f φf good H [l, .fn g [] cap] = some (.int .i64 (idxP (fun x => isT (φf H (x :: cap))) (elems l))) := by
        simp only [φidx]; rw [if_pos hc]
      have a := idxP_any (fun x => isT (φf H (x :: cap))) (elems l)
      obtain ⟨rfl, h2, h3, h4⟩ := hc
      have el := isLs_erase hge h2
      injection h with h; subst h
      refine ⟨by simp, by simp [D.cl], fun T => ?_⟩
      simp +contextual (maxSteps := 10000000) only [cfC, el, h3, p, pcallH MM, lookH_cons, lookH_nil, orK_n, a, go_sem, W_draw]
    · cases h
  · cases h
end GP
namespace GP
open Go
def accT (sz : Nat) (T : Tk) (xs : List D) (d : D) (T' : Tk) : Prop := ExtT T T' ∧ ((xs = [] ∧ d = .nils) ∨ ∃ i, T.length ≤ i ∧ d = .sl (some i) xs ∧ T'[i]? = some (some (xs.length, sz)))
theorem accT.nil (sz : Nat) (T : Tk) {T' : Tk} (h : ExtT T T') : accT sz T [] .nils T' := ⟨h, .inl ⟨rfl, rfl⟩⟩
theorem accT.app {sz : Nat} {T T' : Tk} {xs : List D} {d : D} (h : accT sz T xs d T') (L : Tk) : accT sz T xs d (T' ++ L) := by
  obtain ⟨h1, h2⟩ := h
  refine ⟨h1.app L, ?_⟩
  rcases h2 with h2 | ⟨i, h2, h3, h4⟩
  · exact .inl h2
  · refine .inr ⟨i, h2, h3, ?_⟩
    have : i < T'.length := by
      rcases Nat.lt_or_ge i T'.length with h | h
      · exact h
      · rw [List.getElem?_eq_none h] at h4; cases h4
    rw [List.getElem?_append_left this]; exact h4
theorem accT.mk (sz : Nat) (T : Tk) {T' : Tk} (h : ExtT T T') (xs : List D) (L : Tk) : accT sz T xs (.sl (some T'.length) xs) (T' ++ some (xs.length, sz) :: L) := by
  obtain ⟨M, rfl⟩ := h
  refine ⟨⟨M ++ some (xs.length, sz) :: L, by simp⟩, .inr ⟨_, by simp, rfl, by simp⟩⟩
theorem accT.erase {sz : Nat} {T T' : Tk} {xs : List D} {d : D} (h : accT sz T xs d T') (he : D.eraseL xs = xs) (h0 : xs ≠ []) : d.erase = .sl none xs := by
  rcases h.2 with ⟨rfl, rfl⟩ | ⟨i, _, rfl, _⟩
  · exact (h0 rfl).elim
  · simp [D.erase, he]
end GP
namespace GP
open Go
open Rd O
set_option maxRecDepth 100000
variable {P : Program} [HasG P]
mutual
theorem isV_cl : ∀ {d : D}, d.isV = true → d.cl 0 0 = true
  | d, h => by
    unfold D.isV at h
    split at h
    · simp [D.cl, D.clL]
    · simp only [Bool.and_eq_true] at h
      simp [D.cl, D.clL, isVs_cl h.2]
    · cases h
theorem isVs_cl : ∀ {l : List D}, D.isVs l = true → D.clL 0 0 l = true
  | [], _ => by simp [D.clL]
  | d :: l, h => by
    simp only [D.isVs, Bool.and_eq_true] at h
    simp [D.clL, isV_cl h.1, isVs_cl h.2]
end
def isTx (x : D) : Prop := ∃ w, x = .str w ∧ w.length ≤ 2 ^ 47
theorem isTx_erase {x : D} (h : isTx x) : x.erase = x := by obtain ⟨w, rfl, _⟩ := h; rfl
theorem OkAtH.low {f : FuncId} {φ : List D → Option D} (h : OkAtH P f (fun _ => φ)) : OkAt P f φ := fun args r hr args' he H T Q hQ => h H args r hr args' he T Q hQ
end GP
namespace GP
open Go
variable {X : Pred} {c a b : C} {Q : Ex → S → Prop} {s : S}
def unr (X : Pred) (c : C) (Q : Ex → S → Prop) : Nat → S → Prop
  | 0, _ => False
  | n + 1, s => W X c (seqK (unr X c Q n) Q) s
theorem W_unr (N : Nat) (h : unr X c Q N s) (hX : Mono X) : W X (.loop c) Q s := by
  refine W_for (fun i s => i ≤ N ∧ unr X c Q (N - i) s) N ⟨0, Nat.zero_le _, h⟩ (fun i s h => h.1) (fun i s h => ?_) hX
  obtain ⟨h1, h2⟩ := h
  cases hk : N - i with
  | zero => rw [hk] at h2; exact h2.elim
  | succ m =>
    rw [hk] at h2
    refine W_mono hX ?_ h2
    intro e s' h
    cases e with
    | normal =>
      have : N - (i + 1) = m := by omega
      exact ⟨by omega, by rw [this]; exact h⟩
    | exit i => exact h
    | ret => exact h
theorem unr_s (n : Nat) : unr X c Q (n + 1) s = W X c (seqK (unr X c Q n) Q) s := id rfl
theorem W_cut {I : S → Prop} (hX : Mono X) (h : W X a (seqK I Q) s) (k : ∀ s, I s → W X b Q s) : W X (.seq a b) Q s := by
  show W X a (seqK (W X b Q) Q) s
  refine W_mono hX ?_ h
  intro e s' h
  cases e with
  | normal => exact k _ h
  | exit i => exact h
  | ret => exact h
end GP
namespace GP
open Go
inductive Frz : D → Hp → D → Hp → Prop where
  | refl (r : D) (H : Hp) : Frz r H r H
  | step {r r2 : D} {H H2 : Hp} (o : Nat) (cs : List D) : H[o]? = some (.row cs) → Frz (r.fz o cs) (H.set o .dead) r2 H2 → Frz r H r2 H2
section
variable {P : Program}
theorem CallPost.frz {c : Cx} {w : World} {Q : Post} {e : Ending} {w' : World}
    (h : CallPost c w (fun r H' T' => ∃ r2 H2, Frz r H' r2 H2 ∧ Q r2 H2 T') e w') : CallPost c w Q e w' := by
  obtain ⟨v, rfl, r, H', T', c', ⟨r2, H2, hf, hq⟩, hrep, hinv, hle, hT', hbel⟩ := h
  suffices ∀ {r H' r2 H2}, Frz r H' r2 H2 → ∀ c' : Cx, Q r2 H2 T' → Rep c' r v → Inv c' w' H' → c.le c' → c'.T = T' → CallPost c w Q (.returned v) w' from this hf c' hq hrep hinv hle hT'
  clear hf hq hrep hinv hle hT'
  intro r H' r2 H2 hf
  induction hf with
  | refl r H => intro c' hq hrep hinv hle hT'; exact ⟨v, rfl, r, H, T', c', hq, hrep, hinv, hle, hT', hbel⟩
  | step o cs ho _ ih =>
    intro c' hq hrep hinv hle hT'
    obtain ⟨vs, hv, hcell⟩ := hinv.row_at ho
    have hM := (hinv.own o _ ho rfl).2.2.2
    exact ih (c'.fz o vs) hq (hrep.fz hv hM) (hinv.fz ho hcell) (hle.trans (fz_le hM)) hT'
def SameOb (x y : Ob) : Prop := x = y ∨ ∃ cs, x = .row cs ∧ y = .row (D.eraseL cs)
def SameH (Hm H1 : Hp) : Prop := Hm.length = H1.length ∧ ∀ (o : Nat) x y, Hm[o]? = some x → H1[o]? = some y → SameOb x y
theorem SameH.refl (H : Hp) : SameH H H := ⟨rfl, fun o x y h h' => by rw [h] at h'; injection h' with h'; exact .inl h'⟩
theorem sameOb_live {x y : Ob} (h : SameOb x y) : x.live = y.live := by
  rcases h with rfl | ⟨cs, rfl, rfl⟩ <;> rfl
def Crs (a b : D) : Prop := ∀ c v, Rep c a v → Rep c b v
theorem Crs.refl (a : D) : Crs a a := fun _ _ h => h
theorem Crs.erase {a b : D} (h : a.erase = b) : Crs a b := fun _ _ hr => h ▸ hr.erase
theorem Crs.trans {a b d : D} (h : Crs a b) (k : Crs b d) : Crs a d := fun c v hr => k c v (h c v hr)
def LeavesE (r0 : D) (H1 : Hp) (T : Tk) : Post := fun r H' T' => ∃ r2 H2, Frz r H' r2 H2 ∧ Crs r2 r0 ∧ (∃ Hm L, H2 = Hm ++ L ∧ SameH Hm H1) ∧ ∃ U, T' = T ++ U
def Closed (H H1 : Hp) (n : Nat) : Prop := H.length ≤ H1.length ∧ ∀ (o : Nat) x cs, H1[o]? = some x → x.cells? = some cs → H[o]? = some x ∨ D.clL H1.length n cs = true
theorem CallPost.forgetE {c : Cx} {w : World} {H H1 : Hp} {T : Tk} {Q : Post} (hi : Inv c w H) (hT : c.T = T) {r0 : D} (hcl : r0.cl H1.length T.length = true) (hC : Closed H H1 T.length) (hQ : Q r0 H1 T) {e : Ending} {w' : World}
    (h : CallPost c w (LeavesE r0 H1 T) e w') : CallPost c w Q e w' := by
  have h := CallPost.frz (Q := fun r2 H2 T' => Crs r2 r0 ∧ (∃ Hm L, H2 = Hm ++ L ∧ SameH Hm H1) ∧ ∃ U, T' = T ++ U) h
  obtain ⟨v, rfl, r, H', T', c', ⟨hr, ⟨Hm, L, rfl, hsl, hs⟩, ⟨U, rfl⟩⟩, hrep, hinv, hle, hT', hbel⟩ := h
  have move : ∀ {d : D} {v : Value}, Rep c' d v → d.cl H1.length T.length = true → Rep { c' with bd := fun o => c'.bd o && decide (o < H1.length), T := T } d v := fun {d v} hr hd =>
    hr.move (n := H1.length) (m := T.length) (c' := { c' with bd := fun o => c'.bd o && decide (o < H1.length), T := T }) (fun _ _ h => h) (fun o ho h => by simp [h, ho]) (fun _ _ => rfl) (fun _ _ => rfl) (Nat.le_refl _) (fun τ hτ => ⟨by simp only; rw [hT', List.getElem?_append_left hτ], rfl⟩) hd
  refine ⟨v, rfl, r0, H1, T, { c' with bd := fun o => c'.bd o && decide (o < H1.length), T := T }, hQ, ?_, ?_, ?_, rfl, hbel⟩
  · exact move (hr _ _ hrep) hcl
  · have hlt : ∀ {o : Nat} {x : Ob}, H1[o]? = some x → o < H1.length := fun {o x} h => by
      rcases Nat.lt_or_ge o H1.length with h' | h'
      · exact h'
      · rw [List.getElem?_eq_none h'] at h; cases h
    have hget : ∀ {o : Nat} {x : Ob}, H1[o]? = some x → ∃ x', (Hm ++ L)[o]? = some x' ∧ SameOb x' x := fun {o x} h => by
      have h1 := hlt h
      have h2 : o < Hm.length := by omega
      refine ⟨Hm[o], by rw [List.getElem?_append_left h2, List.getElem?_eq_getElem h2], hs o _ _ (List.getElem?_eq_getElem h2) h⟩
    have htok : ∀ {τ : Nat} {x}, T[τ]? = some x → c'.T[τ]? = some x := fun {τ x} h => by
      have : τ < T.length := by
        rcases Nat.lt_or_ge τ T.length with h' | h'
        · exact h'
        · rw [List.getElem?_eq_none h'] at h; cases h
      rw [hT', List.getElem?_append_left this]; exact h
    refine ⟨hinv.keep, hinv.low, fun o x cs h hx => ?_, ?_, fun o x h hx => ?_, fun o o' x x' h h' hx hx' he => ?_, fun o es clk h => ?_, fun o m sn se la h => ?_,
      fun τ n z h => hinv.tok τ n z (htok h), fun τ n z o x h h1 hx => ?_, fun τ n z τ' n' z' h h' => hinv.toks τ n z τ' n' z' (htok h) (htok h')⟩
    · obtain ⟨x', g1, g2⟩ := hget h
      have hclosed : D.clL H1.length T.length cs = true := by
        rcases hC.2 o x cs h hx with h0 | h0
        · obtain ⟨vs0, rest0, e0, fr0, q1, q2, q4, q3⟩ := (hi.row o x cs h0 hx).hold
          refine clL_of fun d hd => ?_
          obtain ⟨i, hi', rfl⟩ := List.getElem_of_mem hd
          rw [← hT]
          refine (q2.rep i hi' (by rw [q2.len]; exact hi')).cl fun o ho => ?_
          rcases Nat.lt_or_ge o H.length with h' | h'
          · exact Nat.lt_of_lt_of_le h' hC.1
          · rw [hi.free o (.inl h')] at ho; cases ho
        · exact h0
      obtain ⟨vs, rest, e, fr, k1, k2, k4, k3⟩ : RowAt c' w' (c'.β o) (c'.sz o) cs := by
        rcases g2 with rfl | ⟨cs', rfl, rfl⟩
        · exact hinv.row o _ cs g1 hx
        · simp only [Ob.cells?, Option.some.injEq] at hx
          subst hx
          obtain ⟨vs, rest, e, fr, k1, k2, k4, k3⟩ := hinv.row o _ cs' g1 rfl
          refine ⟨vs, rest, e, fr, k1, ⟨by rw [eraseL_len]; exact k2.len, fun d hd => ?_, fun i a b => ?_⟩, k4, k3⟩
          · rw [eraseL_map] at hd
            obtain ⟨y, hy, rfl⟩ := List.mem_map.1 hd
            rw [erase_one]; exact k2.one y hy
          · have a' : i < cs'.length := by rw [eraseL_len] at a; exact a
            rw [eraseL_get cs' i a']; exact (k2.rep i a' b).erase
      refine ⟨vs, rest, e, fr, k1, ?_, k4, k3⟩
      exact ⟨k2.len, k2.one, fun i a b => move (k2.rep i a b) (clL_mem hclosed _ (List.getElem_mem a))⟩
    · intro o h
      rcases h with h | h
      · have : ¬ o < H1.length := by omega
        simp [this]
      · obtain ⟨x', g1, g2⟩ := hget h
        have : x' = .hole := by rcases g2 with rfl | ⟨cs, rfl, g⟩ <;> first | rfl | cases g
        subst this
        have := hinv.free o (.inr g1)
        simp [this]
    · obtain ⟨x', g1, g2⟩ := hget h
      obtain ⟨q1, q2, q3, q4⟩ := hinv.own o x' g1 (by rw [sameOb_live g2]; exact hx)
      exact ⟨by simp [q1, hlt h], q2, q3, q4⟩
    · obtain ⟨y, g1, g2⟩ := hget h
      obtain ⟨y', g1', g2'⟩ := hget h'
      exact hinv.apart o o' y y' g1 g1' (by rw [sameOb_live g2]; exact hx) (by rw [sameOb_live g2']; exact hx') he
    · obtain ⟨x', g1, g2⟩ := hget h
      have : x' = .map es clk := by rcases g2 with rfl | ⟨cs, rfl, g⟩ <;> first | rfl | cases g
      subst this
      exact hinv.map o es clk g1
    · obtain ⟨x', g1, g2⟩ := hget h
      have : x' = .iter m sn se la := by rcases g2 with rfl | ⟨cs, rfl, g⟩ <;> first | rfl | cases g
      subst this
      have g3 := hinv.iter o m sn se la g1
      exact ⟨fun x hx => ⟨(g3.1 x hx).1, by simp [(g3.1 x hx).2, Nat.lt_trans (g3.1 x hx).1 (hlt h)]⟩, g3.2⟩
    · obtain ⟨x', g1, g2⟩ := hget h1
      exact hinv.tokrow τ n z o x' (htok h) g1 (by rw [sameOb_live g2]; exact hx)
  · refine ⟨hle.M, fun o ho => ?_, fun o ho => hle.β o ho, by simp [hT], fun τ h => by simpa [← hT] using h, fun τ n z h => .inr ⟨n, by simpa [← hT] using h, Nat.le_refl _, fun _ => ?_⟩, hle.B, fun o ho => ?_⟩
    · have : o < H1.length := by
        rcases Nat.lt_or_ge o H.length with h' | h'
        · exact Nat.lt_of_lt_of_le h' hC.1
        · rw [hi.free o (.inl h')] at ho; cases ho
      simp [hle.bd o ho, this]
    · rw [hT] at h
      have hlt : τ < T.length := by
        rcases Nat.lt_or_ge τ T.length with h' | h'
        · exact h'
        · rw [List.getElem?_eq_none h'] at h; cases h
      have h2 : c'.T[τ]? = some (some (n, z)) := by rw [hT', List.getElem?_append_left hlt]; exact h
      rcases hle.tok τ n z (by rw [hT]; exact h) with k | ⟨n', k1, k2, k3⟩
      · rw [k] at h2; cases h2
      · rw [k1] at h2; injection h2 with h2; injection h2 with h2; injection h2 with h2 _
        exact k3 h2
    · exact hle.sz o ho
variable [HasG P]
abbrev FsE := List (FuncId × (Hp → List D → Option (D × Hp)))
def lookE : FsE → Hp → FuncId → List D → Option (D × Hp)
  | [], _, _, _ => none
  | (g, φ) :: l, H, f, a => if f = g then φ H a else lookE l H f a
def inE : FsE → FuncId → Bool
  | [], _ => false
  | (g, _) :: l, f => decide (f = g) || inE l f
theorem lookE_nil (H : Hp) (f : FuncId) (a : List D) : lookE [] H f a = none := id rfl
theorem lookE_cons (g : FuncId) (φ : Hp → List D → Option (D × Hp)) (l : FsE) (H : Hp) (f : FuncId) (a : List D) : lookE ((g, φ) :: l) H f a = if f = g then φ H a else lookE l H f a := id rfl
theorem inE_nil (f : FuncId) : inE [] f = false := id rfl
theorem inE_cons (g : FuncId) (φ : Hp → List D → Option (D × Hp)) (l : FsE) (f : FuncId) : inE ((g, φ) :: l) f = (decide (f = g) || inE l f) := id rfl
theorem lookE_in : ∀ {l : FsE} {H : Hp} {f : FuncId} {a : List D}, inE l f = false → lookE l H f a = none
  | [], _, _, _, _ => rfl
  | (g, φ) :: l, H, f, a, h => by
    simp only [inE, Bool.or_eq_false_iff, decide_eq_false_iff_not] at h
    simp only [lookE]
    rw [if_neg h.1]; exact lookE_in h.2
def XE (l : Fs) (m : FsH) (e : FsE) : Pred := fun f args H T Q => match look l f (D.eraseL args) with
  | some r => Q r H T
  | none => match lookH m H f (D.eraseL args) with
    | some r => Q r H T
    | none => match lookE e H f (D.eraseL args) with
      | some (r, H') => Q r H' T
      | none => False
def OkAtE (P : Program) [HasG P] (f : FuncId) (φ : Hp → List D → Option (D × Hp)) : Prop := ∀ H args r H', φ H args = some (r, H') → ∀ args', D.eraseL args' = args → ∀ T (Q : Post), Q r H' T → Snd P f args' H T Q
def OkE (P : Program) [HasG P] (m : FsE) : Prop := ∀ H f args r H', lookE m H f args = some (r, H') → ∀ args', D.eraseL args' = args → ∀ T (Q : Post), Q r H' T → Snd P f args' H T Q
theorem OkE.nil : OkE P [] := fun _ _ _ _ _ h => by simp [lookE] at h
theorem OkE.cons {f : FuncId} {φ : Hp → List D → Option (D × Hp)} {m : FsE} (h : OkAtE P f φ) (k : OkE P m) : OkE P ((f, φ) :: m) := by
  intro H g args r H' hr
  simp only [lookE] at hr
  split at hr
  · rename_i e; subst e; exact h H args r H' hr
  · exact k H g args r H' hr
theorem XE.X {l : Fs} {m : FsH} {e : FsE} (k : Ok P l) (k' : OkH P m) (k'' : OkE P e) : ∀ f args H T Q Q', (∀ r H T, Q r H T → Q' r H T) → XE l m e f args H T Q → Snd P f args H T Q' := by
  intro f args H T Q Q' hQ h
  unfold XE at h
  split at h
  · rename_i r hr
    exact k f _ r hr args rfl H T Q' (hQ _ _ _ h)
  · split at h
    · rename_i r hr
      exact k' H f _ r hr args rfl T Q' (hQ _ _ _ h)
    · split at h
      · rename_i r H' hr
        exact k'' H f _ r H' hr args rfl T Q' (hQ _ _ _ h)
      · exact h.elim
theorem XE_mono (l : Fs) (m : FsH) (e : FsE) : Mono (XE l m e) := by
  intro f args H T Q Q' hQ h
  unfold XE at h ⊢
  split at h
  · exact hQ _ _ _ h
  · split at h
    · exact hQ _ _ _ h
    · split at h
      · exact hQ _ _ _ h
      · exact h.elim
def pcallN (X : Pred) (args : List D) (K : D → S → Prop) (s : S) (d : D) : Prop := pcallK X args K s d
theorem pcallE {l : Fs} {m : FsH} {e : FsE} (hm : MonoH m) (args : List D) (K : D → S → Prop) (s : S) (f : FuncId) (first cap : List D) :
    pcallK (XE l m e) args K s (.fn f first cap) = if inE e f = true then pcallN (XE l m e) args K s (.fn f first cap) else orK K s (look l f (D.eraseL (first ++ args ++ cap))) (lookH m s.H f (D.eraseL (first ++ args ++ cap))) := by
  cases he : inE e f with
  | true => rfl
  | false =>
    rw [if_neg (by simp)]
    have hx : ∀ a H T Q, XE l m e f a H T Q = XM l m f a H T Q := by
      intro a H T Q
      unfold XE XM
      (rw [lookE_in he]) <;> rfl
    rw [← pcallH hm]
    simp only [pcallK, eq_iff_iff]
    unfold Pure
    simp only [hx]
def orE (Q : Post) (T : Tk) : Option (D × Hp) → Prop
  | some (r, H') => Q r H' T
  | none => False
def orX (Q : Post) (H : Hp) (T : Tk) : Option D → Option D → Option (D × Hp) → Prop
  | some r, _, _ => Q r H T
  | none, some r, _ => Q r H T
  | none, none, x => orE Q T x
theorem XE_eq (l : Fs) (m : FsH) (e : FsE) (f : FuncId) (args : List D) (H : Hp) (T : Tk) (Q : Post) : XE l m e f args H T Q = orX Q H T (look l f (D.eraseL args)) (lookH m H f (D.eraseL args)) (lookE e H f (D.eraseL args)) := by
  unfold XE
  cases look l f (D.eraseL args) with
  | some r => rfl
  | none =>
    cases lookH m H f (D.eraseL args) with
    | some r => rfl
    | none =>
      cases lookE e H f (D.eraseL args) with
      | some x => rfl
      | none => rfl
theorem orX_s (Q : Post) (H : Hp) (T : Tk) (r : D) (x : Option D) (y : Option (D × Hp)) : orX Q H T (some r) x y = Q r H T := id rfl
theorem orX_n (Q : Post) (H : Hp) (T : Tk) (r : D) (y : Option (D × Hp)) : orX Q H T none (some r) y = Q r H T := id rfl
theorem orX_e (Q : Post) (H : Hp) (T : Tk) (y : Option (D × Hp)) : orX Q H T none none y = orE Q T y := id rfl
theorem orE_s (Q : Post) (T : Tk) (r : D) (H' : Hp) : orE Q T (some (r, H')) = Q r H' T := id rfl
theorem Closed.refl (H : Hp) (n : Nat) : Closed H H n := ⟨Nat.le_refl _, fun _ _ _ h _ => .inl h⟩
end
end GP
namespace GP
open Go
theorem tf (b : Bool) : b = true ∨ b = false := by cases b <;> simp
theorem flatD_cons (x : D) (xs : List D) : flatD (x :: xs) = x.cells ++ flatD xs := by simp [flatD]
theorem flatD_append (xs ys : List D) : flatD (xs ++ ys) = flatD xs ++ flatD ys := by simp [flatD]
def isAg (sz : Nat) (xs : List D) : Prop := ∀ x ∈ xs, ∃ l, x = .agg l ∧ l.length = sz
theorem isAg.len {sz : Nat} {xs : List D} (h : isAg sz xs) : ∀ x ∈ xs, x.cells.length = sz := fun x hx => by
  obtain ⟨l, rfl, hl⟩ := h x hx; exact hl
theorem isAg.fit {sz : Nat} {xs : List D} (h : isAg sz xs) : xs.all (fit sz) = true := List.all_eq_true.2 fun x hx => by
  obtain ⟨l, rfl, hl⟩ := h x hx; simp [GP.fit, D.okc, D.cells, hl]
theorem isAg.flat {sz : Nat} {xs : List D} (h : isAg sz xs) : (flatD xs).length = xs.length * sz := flatD_len h.len
theorem isAg.sub {sz : Nat} {xs ys : List D} (h : isAg sz xs) (k : ∀ y ∈ ys, y ∈ xs) : isAg sz ys := fun y hy => h y (k y hy)
theorem isAg.set {sz : Nat} {xs : List D} (h : isAg sz xs) {x : D} (hx : ∃ l, x = .agg l ∧ l.length = sz) (i : Nat) : isAg sz (xs.set i x) := fun y hy => by
  rcases List.mem_or_eq_of_mem_set hy with h' | rfl
  · exact h y h'
  · exact hx
theorem flatD_drop {sz : Nat} : ∀ (xs : List D) (i : Nat), (∀ x ∈ xs, x.cells.length = sz) → (flatD xs).drop (i * sz) = flatD (xs.drop i)
  | [], i, _ => by simp [flatD]
  | x :: xs, 0, _ => by simp
  | x :: xs, i + 1, h => by
    rw [flatD_cons, List.drop_succ_cons, ← flatD_drop xs i (fun y hy => h y (by simp [hy])), show (i + 1) * sz = x.cells.length + i * sz by rw [h x (by simp)]; rw [Nat.add_mul]; omega, ← List.drop_drop, List.drop_left]
theorem flatD_take {sz : Nat} : ∀ (xs : List D) (i : Nat), (∀ x ∈ xs, x.cells.length = sz) → (flatD xs).take (i * sz) = flatD (xs.take i)
  | [], i, _ => by simp [flatD]
  | x :: xs, 0, _ => by simp [flatD]
  | x :: xs, i + 1, h => by
    rw [flatD_cons, List.take_succ_cons, flatD_cons, ← flatD_take xs i (fun y hy => h y (by simp [hy])), show (i + 1) * sz = x.cells.length + i * sz by rw [h x (by simp)]; rw [Nat.add_mul]; omega, List.take_length_add_append]
theorem chunk_flat {sz : Nat} : ∀ (xs : List D) (rest : List D), isAg sz xs → chunk true sz xs.length (flatD xs ++ rest) = xs
  | [], _, _ => rfl
  | x :: xs, rest, h => by
    obtain ⟨l, rfl, hl⟩ := h x (by simp)
    simp only [List.length_cons, chunk, if_true, flatD_cons, D.cells, List.append_assoc]
    rw [List.take_left' hl, List.drop_left' hl, chunk_flat xs rest (h.sub fun y hy => by simp [hy])]
theorem st_ms {sz : Nat} {xs rest : List D} {H : Hp} {t : Nat → D} {T : Tk} {o i off : Nat} {x : D} {K : D → S → Prop} (ho : H[o]? = some (.row (flatD xs ++ rest))) (h : isAg sz xs) (hx : ∃ l, x = .agg l ∧ l.length = sz) (hi : i < xs.length) (hoff : off = i * sz)
    (k : K .top ⟨t, H.set o (.row (flatD (xs.set i x) ++ rest)), T⟩) : storeK sz K ⟨t, H, T⟩ (.ptr o off) x := by
  subst hoff
  obtain ⟨l, rfl, hl⟩ := hx
  have hle : i * sz + sz ≤ xs.length * sz := by
    have := Nat.mul_le_mul_right sz (show i + 1 ≤ xs.length from hi)
    rwa [Nat.add_mul, Nat.one_mul] at this
  simp only [storeK, ho]
  refine ⟨rfl, hl, by simp [h.flat]; omega, ?_⟩
  have e : (flatD xs ++ rest).take (i * sz) ++ D.cells (.agg l) ++ (flatD xs ++ rest).drop (i * sz + sz) = flatD (xs.set i (.agg l)) ++ rest := by
    rw [List.take_append_of_le_length (by rw [h.flat]; omega), List.drop_append_of_le_length (by rw [h.flat]; omega), flatD_take xs i h.len,
      show i * sz + sz = (i + 1) * sz by rw [Nat.add_mul]; omega, flatD_drop xs (i + 1) h.len, List.set_eq_take_append_cons_drop, if_pos hi, flatD_append, flatD_cons]
    simp
  rw [e]; exact k
theorem ia_msN {ag : Bool} {sz o off n cap i : Nat} {k : IntKind} (h : i < n) : ia sz (.ms ag sz o off n cap) (.int k (i : Nat)) = some (.ptr o (off + i * sz)) := by
  have e : ((i : Nat) : Int).toNat = i := by omega
  simp only [ia]
  rw [if_pos (by refine ⟨by omega, by omega, ?_⟩; trivial), e]
theorem slc_msN {ag : Bool} {sz o off n cap l h : Nat} (h1 : l ≤ h) (h2 : h ≤ n) (h3 : l < cap) : slc sz (some ((l : Nat) : Int)) (some ((h : Nat) : Int)) (.ms ag sz o off n cap) = some (.ms ag sz o (off + l * sz) (h - l) (cap - l)) := by
  have e1 : ((l : Nat) : Int).toNat = l := by omega
  have e2 : (((h : Nat) : Int) - ((l : Nat) : Int)).toNat = h - l := by omega
  simp only [slc]
  rw [if_pos (by refine ⟨by omega, by omega, by omega, by omega, ?_⟩; trivial), e1, e2]
theorem slc_ms0 {ag : Bool} {sz o off n cap h : Nat} (h2 : h ≤ n) (h3 : 0 < cap) : slc sz (some (0 : Int)) (some ((h : Nat) : Int)) (.ms ag sz o off n cap) = some (.ms ag sz o off h cap) := by
  have := slc_msN (ag := ag) (sz := sz) (o := o) (off := off) (n := n) (cap := cap) (l := 0) (h := h) (by omega) h2 h3
  simpa using this
end GP
namespace GP
def impS : List Nat := [14,16,20,21,23,27,28,62,64,96,103,1000003]
end GP
