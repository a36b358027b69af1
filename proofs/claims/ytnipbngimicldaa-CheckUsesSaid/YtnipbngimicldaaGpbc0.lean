import Derived.Test.YtnipbngimicldaaGpYe
import Derived.Test.YtnipbngimicldaaGpbi
import Derived.Test.YtnipbngimicldaaProg
namespace GP
open Go Go.Proofs
open Rd O
set_option maxRecDepth 100000
def c11 : C :=
  (.seq (.reg [⟨(some 0), none, .mv (k (.bool false))⟩])
  (.seq (.reg [⟨(some 4), none, .build [(.str []), (.int .i64 0), (.int .i64 0), (.str []), .nils, (.str []), (.str []), .nils] [(0, 1, (k (.str [110, 111, 119])))]⟩, ⟨(some 5), none, .build [(.int .i64 0), .nils, .nils] [(0, 1, (k (.int .i64 5)))]⟩, ⟨(some 6), none, .pcall (k (.fn 17 [] [])) [(t 4), (t 5)]⟩, ⟨(some 3), none, .mv (t 6)⟩, ⟨(some 7), none, .ext 0 (t 3)⟩, ⟨(some 8), none, .ext 1 (t 3)⟩, ⟨(some 1), none, .alloc [(.int .i64 0), (.int .i64 0), (.str []), .nils]⟩, ⟨none, none, .store 4 (t 1) (t 7)⟩, ⟨(some 2), none, .mv (t 8)⟩])
  (.seq (.reg [⟨(some 9), none, .mv (t 2)⟩, ⟨(some 10), none, .bin .eql (t 9) (k (.int .i64 0))⟩, ⟨(some 11), none, .mv (t 10)⟩, ⟨(some 12), (some (11, true)), .faddr 0 (t 1)⟩, ⟨(some 13), (some (11, true)), .load false 1 (t 12)⟩, ⟨(some 14), (some (11, true)), .bin .eql (t 13) (k (.int .i64 4))⟩, ⟨(some 15), none, .pick (t 11) (t 14) (k (.bool false))⟩, ⟨(some 16), none, .mv (t 15)⟩, ⟨(some 17), (some (16, true)), .faddr 1 (t 1)⟩, ⟨(some 18), (some (16, true)), .load false 1 (t 17)⟩, ⟨(some 19), (some (16, true)), .bin .eql (t 18) (k (.int .i64 5))⟩, ⟨(some 20), none, .pick (t 16) (t 19) (k (.bool false))⟩, ⟨(some 0), none, .mv (t 20)⟩])
  .ret)))
theorem fn11 : Fn Go.Proofs.Try.prog 11 21 [.inl 0] c11 :=
  ⟨⟨_, _, Go.Proofs.Try.func11, rfl, by kernel_rfl, Go.Proofs.Try.ntmps11, by kernel_rfl, ⟨fun f => imp.contains f, false⟩, by kernel_rfl⟩⟩

def c16 : C :=
  (.seq (.reg [⟨(some 3), none, .box (t 1)⟩, ⟨(some 4), none, .mv (k (.bool false))⟩])
  (.seq (.seq (.reg [⟨(some 10), none, .load true 3 (t 3)⟩, ⟨(some 11), none, .pcall (k (.fn 24 [] [])) [(t 10)]⟩, ⟨(some 12), none, .un .not (t 11)⟩])
  (.cond (t 12)
  (.seq (.reg [⟨(some 4), none, .mv (k (.bool false))⟩])
  .ret)
  .skip))
  (.seq (.seq (.reg [⟨(some 5), none, .mv (k (.int .i64 0))⟩])
  (.block 0
  (.loop
  (.seq (.seq (.reg [⟨(some 13), none, .mv (t 5)⟩, ⟨(some 14), none, .faddr 2 (t 3)⟩, ⟨(some 15), none, .load false 1 (t 14)⟩, ⟨(some 16), none, .len (t 15)⟩, ⟨(some 17), none, .bin .lss (t 13) (t 16)⟩])
  (.cond (t 17)
  .skip
  (.exit 0)))
  (.seq (.block 1
  (.seq (.reg [⟨(some 20), none, .faddr 2 (t 3)⟩, ⟨(some 21), none, .load false 1 (t 20)⟩, ⟨(some 22), none, .mv (t 5)⟩, ⟨(some 23), none, .iaddr 6 (t 21) (t 22)⟩, ⟨(some 24), none, .load true 6 (t 23)⟩, ⟨(some 6), none, .alloc [(.str []), (.str []), (.int .i64 0), (.int .i64 0), (.str []), .nils]⟩, ⟨none, none, .store 6 (t 6) (t 24)⟩])
  (.seq (.reg [⟨(some 26), none, .mv (t 0)⟩, ⟨(some 27), none, .faddr 0 (t 6)⟩, ⟨(some 28), none, .load false 1 (t 27)⟩, ⟨(some 29), none, .faddr 1 (t 6)⟩, ⟨(some 30), none, .load false 1 (t 29)⟩, ⟨(some 31), none, .build [(.str []), (.int .i64 0), (.int .i64 0), (.str []), .nils, (.str []), (.str []), .nils] [(0, 1, (k (.str [97, 116, 116, 114]))), (5, 1, (t 28)), (6, 1, (t 30))]⟩, ⟨(some 32), none, .pcall (k (.fn 15 [] [])) [(t 26), (t 31)]⟩, ⟨(some 25), none, .mv (t 32)⟩, ⟨(some 33), none, .ext 0 (t 25)⟩, ⟨(some 34), none, .ext 1 (t 25)⟩, ⟨(some 7), none, .mv (t 33)⟩, ⟨(some 8), none, .mv (t 34)⟩])
  (.seq (.seq (.reg [⟨(some 35), none, .mv (t 8)⟩, ⟨(some 36), none, .bin .neq (t 35) (k (.int .i64 0))⟩])
  (.cond (t 36)
  (.seq (.reg [⟨(some 4), none, .mv (k (.bool false))⟩])
  .ret)
  .skip))
  (.seq (.reg [⟨(some 37), none, .faddr 2 (t 6)⟩, ⟨(some 38), none, .faddr 0 (t 37)⟩, ⟨(some 39), none, .load false 1 (t 38)⟩, ⟨(some 9), none, .mv (t 39)⟩])
  (.seq (.seq (.reg [⟨(some 40), none, .mv (t 9)⟩, ⟨(some 41), none, .bin .eql (t 40) (k (.int .i64 5))⟩, ⟨(some 42), none, .mv (t 41)⟩, ⟨(some 43), (some (42, true)), .faddr 2 (t 6)⟩, ⟨(some 44), (some (42, true)), .faddr 3 (t 43)⟩, ⟨(some 45), (some (42, true)), .load false 1 (t 44)⟩, ⟨(some 46), (some (42, true)), .len (t 45)⟩, ⟨(some 47), (some (42, true)), .bin .gtr (t 46) (k (.int .i64 0))⟩, ⟨(some 48), none, .pick (t 42) (t 47) (k (.bool false))⟩])
  (.cond (t 48)
  (.reg [⟨(some 49), none, .faddr 2 (t 6)⟩, ⟨(some 50), none, .faddr 3 (t 49)⟩, ⟨(some 51), none, .load false 1 (t 50)⟩, ⟨(some 52), none, .iaddr 4 (t 51) (k (.int .i64 0))⟩, ⟨(some 53), none, .faddr 0 (t 52)⟩, ⟨(some 54), none, .load false 1 (t 53)⟩, ⟨(some 55), none, .bin .add (k (.int .i64 10)) (t 54)⟩, ⟨(some 9), none, .mv (t 55)⟩])
  .skip))
  (.seq (.reg [⟨(some 56), none, .mv (t 9)⟩, ⟨(some 57), none, .mv (t 7)⟩, ⟨(some 58), none, .bin .neq (t 56) (t 57)⟩, ⟨(some 59), none, .mv (t 58)⟩, ⟨(some 60), (some (59, true)), .mv (t 9)⟩, ⟨(some 61), (some (59, true)), .bin .eql (t 60) (k (.int .i64 5))⟩, ⟨(some 62), (some (59, true)), .mv (t 61)⟩, ⟨(some 63), (some (62, true)), .mv (t 7)⟩, ⟨(some 64), (some (62, true)), .bin .gtr (t 63) (k (.int .i64 10))⟩, ⟨(some 65), (some (59, true)), .pick (t 62) (t 64) (k (.bool false))⟩, ⟨(some 66), (some (59, true)), .un .not (t 65)⟩, ⟨(some 67), none, .pick (t 59) (t 66) (k (.bool false))⟩])
  (.cond (t 67)
  (.seq (.reg [⟨(some 4), none, .mv (k (.bool false))⟩])
  .ret)
  .skip))))))))
  (.reg [⟨(some 18), none, .mv (t 5)⟩, ⟨(some 19), none, .bin .add (t 18) (k (.int .i64 1))⟩, ⟨(some 5), none, .mv (t 19)⟩]))))))
  (.seq (.reg [⟨(some 4), none, .mv (k (.bool true))⟩])
  .ret))))
theorem fn16 : Fn Go.Proofs.Try.prog 16 68 [.inl 4] c16 :=
  ⟨⟨_, _, Go.Proofs.Try.func16, rfl, by kernel_rfl, Go.Proofs.Try.ntmps16, by kernel_rfl, ⟨fun f => imp.contains f, false⟩, by kernel_rfl⟩⟩

def c23 : C :=
  (.seq (.reg [⟨(some 1), none, .box (t 0)⟩, ⟨(some 2), none, .mv (k (.bool false))⟩])
  (.seq (.seq (.reg [⟨(some 5), none, .faddr 2 (t 1)⟩, ⟨(some 6), none, .load false 1 (t 5)⟩, ⟨(some 7), none, .len (t 6)⟩, ⟨(some 8), none, .mv (k (.int .i64 0))⟩])
  (.block 0
  (.loop
  (.seq (.reg [⟨(some 9), none, .bin .lss (t 8) (t 7)⟩])
  (.seq (.cond (t 9)
  .skip
  (.exit 0))
  (.seq (.block 1
  (.seq (.reg [⟨(some 10), none, .iaddr 6 (t 6) (t 8)⟩, ⟨(some 11), none, .load true 6 (t 10)⟩, ⟨(some 4), none, .alloc [(.str []), (.str []), (.int .i64 0), (.int .i64 0), (.str []), .nils]⟩, ⟨none, none, .store 6 (t 4) (t 11)⟩])
  (.seq (.reg [⟨(some 12), none, .faddr 2 (t 4)⟩, ⟨(some 13), none, .load true 4 (t 12)⟩, ⟨(some 14), none, .pcall (k (.fn 40 [] [])) [(t 13)]⟩, ⟨(some 15), none, .un .not (t 14)⟩, ⟨(some 16), none, .mv (t 15)⟩, ⟨(some 17), (some (16, false)), .faddr 2 (t 4)⟩, ⟨(some 18), (some (16, false)), .faddr 0 (t 17)⟩, ⟨(some 19), (some (16, false)), .load false 1 (t 18)⟩, ⟨(some 20), (some (16, false)), .bin .eql (t 19) (k (.int .i64 0))⟩, ⟨(some 21), none, .pick (t 16) (k (.bool true)) (t 20)⟩])
  (.cond (t 21)
  (.seq (.reg [⟨(some 2), none, .mv (k (.bool false))⟩])
  .ret)
  .skip))))
  (.reg [⟨(some 22), none, .bin .add (t 8) (k (.int .i64 1))⟩, ⟨(some 8), none, .mv (t 22)⟩])))))))
  (.seq (.reg [⟨(some 23), none, .faddr 0 (t 1)⟩, ⟨(some 24), none, .load false 1 (t 23)⟩, ⟨(some 25), none, .bin .geq (t 24) (k (.int .i64 0))⟩, ⟨(some 26), none, .mv (t 25)⟩, ⟨(some 27), (some (26, true)), .faddr 0 (t 1)⟩, ⟨(some 28), (some (26, true)), .load false 1 (t 27)⟩, ⟨(some 29), (some (26, true)), .bin .leq (t 28) (k (.int .i64 1099511627776))⟩, ⟨(some 30), none, .pick (t 26) (t 29) (k (.bool false))⟩, ⟨(some 2), none, .mv (t 30)⟩])
  .ret)))
theorem fn23 : Fn Go.Proofs.Try.prog 23 31 [.inl 2] c23 :=
  ⟨⟨_, _, Go.Proofs.Try.func23, rfl, by kernel_rfl, Go.Proofs.Try.ntmps23, by kernel_rfl, ⟨fun f => imp.contains f, false⟩, by kernel_rfl⟩⟩

def c26 : C :=
  (.seq (.reg [⟨(some 2), none, .box (t 0)⟩, ⟨(some 3), none, .box (t 1)⟩, ⟨(some 4), none, .alloc [(.int .i64 0), (.int .i64 0), (.str []), .nils]⟩, ⟨(some 5), none, .mv (k (.int .i64 0))⟩])
  (.seq (.reg [⟨(some 14), none, .build [(.int .i64 0), (.int .i64 0), (.str []), .nils] []⟩, ⟨(some 6), none, .alloc [(.int .i64 0), (.int .i64 0), (.str []), .nils]⟩, ⟨none, none, .store 4 (t 6) (t 14)⟩])
  (.seq (.reg [⟨(some 7), none, .alloc [(.int .i64 0), (.int .i64 0), (.str []), .nils, (.int .i64 0), (.int .i64 0), (.str []), .nils]⟩])
  (.seq (.reg [⟨(some 8), none, .alloc [(.int .i64 0), (.int .i64 0)]⟩])
  (.seq (.seq (.reg [⟨(some 9), none, .mv (k (.int .i64 0))⟩])
  (.block 0
  (.loop
  (.seq (.seq (.reg [⟨(some 15), none, .mv (t 9)⟩, ⟨(some 16), none, .faddr 7 (t 2)⟩, ⟨(some 17), none, .load false 1 (t 16)⟩, ⟨(some 18), none, .len (t 17)⟩, ⟨(some 19), none, .bin .lss (t 15) (t 18)⟩])
  (.cond (t 19)
  .skip
  (.exit 0)))
  (.seq (.block 1
  (.seq (.draw 1 [(⟨(some 23), none, .faddr 7 (t 2)⟩, []), (⟨(some 24), none, .load false 1 (t 23)⟩, []), (⟨(some 25), none, .mv (t 9)⟩, []), (⟨(some 26), none, .iaddr 8 (t 24) (t 25)⟩, []), (⟨(some 27), none, .load true 8 (t 26)⟩, []), (⟨(some 28), none, .load true 3 (t 3)⟩, []), (⟨(some 29), none, .pcall (k (.fn 41 [] [])) [(t 27), (t 28)]⟩, []), (⟨(some 22), none, .mv (t 29)⟩, []), (⟨(some 30), none, .ext 0 (t 22)⟩, []), (⟨(some 31), none, .ext 1 (t 22)⟩, []), (⟨(some 10), none, .rawAt 1 [(.int .i64 0), (.int .i64 0), (.str []), .nils]⟩, []), (⟨none, none, .fillAt 1 4 (t 10) (t 30)⟩, []), (⟨(some 11), none, .mv (t 31)⟩, [])])
  (.seq (.reg [⟨(some 32), none, .mv (t 9)⟩, ⟨(some 33), none, .load true 4 (t 10)⟩, ⟨(some 34), none, .iarr 4 2 (t 7) (t 32)⟩, ⟨none, none, .store 4 (t 34) (t 33)⟩])
  (.reg [⟨(some 35), none, .mv (t 9)⟩, ⟨(some 36), none, .mv (t 11)⟩, ⟨(some 37), none, .iarr 1 2 (t 8) (t 35)⟩, ⟨none, none, .store 1 (t 37) (t 36)⟩]))))
  (.reg [⟨(some 20), none, .mv (t 9)⟩, ⟨(some 21), none, .bin .add (t 20) (k (.int .i64 1))⟩, ⟨(some 9), none, .mv (t 21)⟩]))))))
  (.seq (.seq (.reg [⟨(some 38), none, .faddr 0 (t 2)⟩, ⟨(some 39), none, .load false 1 (t 38)⟩, ⟨(some 40), none, .bin .eql (t 39) (k (.str [97, 110, 100]))⟩, ⟨(some 41), none, .mv (t 40)⟩, ⟨(some 42), (some (41, false)), .faddr 0 (t 2)⟩, ⟨(some 43), (some (41, false)), .load false 1 (t 42)⟩, ⟨(some 44), (some (41, false)), .bin .eql (t 43) (k (.str [111, 114]))⟩, ⟨(some 45), none, .pick (t 41) (k (.bool true)) (t 44)⟩])
  (.cond (t 45)
  (.seq (.reg [⟨(some 46), none, .faddr 0 (t 2)⟩, ⟨(some 47), none, .load false 1 (t 46)⟩, ⟨(some 48), none, .bin .eql (t 47) (k (.str [111, 114]))⟩, ⟨(some 49), none, .load true 8 (t 7)⟩, ⟨(some 50), none, .load true 2 (t 8)⟩, ⟨(some 51), none, .pcall (k (.fn 42 [] [])) [(t 48), (t 49), (t 50)]⟩, ⟨(some 52), none, .ext 0 (t 51)⟩, ⟨(some 53), none, .ext 1 (t 51)⟩, ⟨none, none, .store 4 (t 4) (t 52)⟩, ⟨(some 5), none, .mv (t 53)⟩])
  .ret)
  .skip))
  (.seq (.seq (.reg [⟨(some 54), none, .iarr 1 2 (t 8) (k (.int .i64 0))⟩, ⟨(some 55), none, .load false 1 (t 54)⟩, ⟨(some 56), none, .bin .neq (t 55) (k (.int .i64 0))⟩])
  (.cond (t 56)
  (.seq (.draw 0 [(⟨(some 57), none, .load true 4 (t 6)⟩, []), (⟨(some 58), none, .iarr 1 2 (t 8) (k (.int .i64 0))⟩, []), (⟨(some 59), none, .load false 1 (t 58)⟩, []), (⟨none, none, .store 4 (t 4) (t 57)⟩, [⟨(some 59), none, .load false 1 (t 58)⟩]), (⟨(some 5), none, .mv (t 59)⟩, [])])
  .ret)
  .skip))
  (.seq (.seq (.reg [⟨(some 60), none, .iarr 1 2 (t 8) (k (.int .i64 1))⟩, ⟨(some 61), none, .load false 1 (t 60)⟩, ⟨(some 62), none, .bin .neq (t 61) (k (.int .i64 0))⟩])
  (.cond (t 62)
  (.seq (.draw 0 [(⟨(some 63), none, .load true 4 (t 6)⟩, []), (⟨(some 64), none, .iarr 1 2 (t 8) (k (.int .i64 1))⟩, []), (⟨(some 65), none, .load false 1 (t 64)⟩, []), (⟨none, none, .store 4 (t 4) (t 63)⟩, [⟨(some 65), none, .load false 1 (t 64)⟩]), (⟨(some 5), none, .mv (t 65)⟩, [])])
  .ret)
  .skip))
  (.seq (.seq (.reg [⟨(some 66), none, .faddr 0 (t 2)⟩, ⟨(some 67), none, .load false 1 (t 66)⟩])
  (.block 2
  (.seq (.reg [⟨(some 69), none, .bin .eql (t 67) (k (.str [118, 97, 108, 117, 101]))⟩, ⟨(some 68), none, .mv (t 69)⟩])
  (.cond (t 68)
  (.seq (.reg [⟨(some 70), none, .faddr 1 (t 2)⟩, ⟨(some 71), none, .load true 4 (t 70)⟩, ⟨none, none, .store 4 (t 4) (t 71)⟩, ⟨(some 5), none, .mv (k (.int .i64 0))⟩])
  .ret)
  (.seq (.reg [⟨(some 73), none, .bin .eql (t 67) (k (.str [110, 111, 119]))⟩, ⟨(some 72), none, .mv (t 73)⟩])
  (.cond (t 72)
  (.seq (.reg [⟨(some 74), none, .faddr 0 (t 3)⟩, ⟨(some 75), none, .load false 1 (t 74)⟩, ⟨(some 76), none, .build [(.int .i64 0), (.int .i64 0), (.str []), .nils] [(0, 1, (k (.int .i64 4))), (1, 1, (t 75))]⟩, ⟨none, none, .store 4 (t 4) (t 76)⟩, ⟨(some 5), none, .mv (k (.int .i64 0))⟩])
  .ret)
  (.seq (.reg [⟨(some 78), none, .bin .eql (t 67) (k (.str [114, 111, 108, 101]))⟩, ⟨(some 77), none, .mv (t 78)⟩])
  (.cond (t 77)
  (.seq (.seq (.reg [⟨(some 12), none, .mv (k (.int .i64 0))⟩])
  (.block 3
  (.loop
  (.seq (.seq (.reg [⟨(some 79), none, .mv (t 12)⟩, ⟨(some 80), none, .faddr 1 (t 3)⟩, ⟨(some 81), none, .load false 1 (t 80)⟩, ⟨(some 82), none, .len (t 81)⟩, ⟨(some 83), none, .bin .lss (t 79) (t 82)⟩])
  (.cond (t 83)
  .skip
  (.exit 3)))
  (.seq (.block 4
  (.seq (.draw 0 [(⟨(some 86), none, .faddr 1 (t 3)⟩, []), (⟨(some 87), none, .load false 1 (t 86)⟩, []), (⟨(some 88), none, .mv (t 12)⟩, []), (⟨(some 89), none, .iaddr 1 (t 87) (t 88)⟩, []), (⟨(some 90), none, .load false 1 (t 89)⟩, []), (⟨(some 91), none, .faddr 6 (t 2)⟩, []), (⟨(some 92), none, .load false 1 (t 91)⟩, []), (⟨(some 93), none, .bin .eql (t 90) (t 92)⟩, [])])
  (.cond (t 93)
  (.seq (.reg [⟨(some 94), none, .pcall (k (.fn 43 [] [])) [(k (.bool true))]⟩, ⟨none, none, .store 4 (t 4) (t 94)⟩, ⟨(some 5), none, .mv (k (.int .i64 0))⟩])
  .ret)
  .skip)))
  (.reg [⟨(some 84), none, .mv (t 12)⟩, ⟨(some 85), none, .bin .add (t 84) (k (.int .i64 1))⟩, ⟨(some 12), none, .mv (t 85)⟩]))))))
  (.seq (.reg [⟨(some 95), none, .pcall (k (.fn 43 [] [])) [(k (.bool false))]⟩, ⟨none, none, .store 4 (t 4) (t 95)⟩, ⟨(some 5), none, .mv (k (.int .i64 0))⟩])
  .ret))
  (.seq (.seq (.reg [⟨(some 97), none, .bin .eql (t 67) (k (.str [97, 116, 116, 114]))⟩, ⟨(some 96), none, .mv (t 97)⟩])
  (.cond (t 96)
  .skip
  (.reg [⟨(some 98), none, .bin .eql (t 67) (k (.str [104, 97, 115]))⟩, ⟨(some 96), none, .mv (t 98)⟩])))
  (.cond (t 96)
  (.seq (.seq (.reg [⟨(some 13), none, .mv (k (.int .i64 0))⟩])
  (.block 5
  (.loop
  (.seq (.seq (.reg [⟨(some 99), none, .mv (t 13)⟩, ⟨(some 100), none, .faddr 2 (t 3)⟩, ⟨(some 101), none, .load false 1 (t 100)⟩, ⟨(some 102), none, .len (t 101)⟩, ⟨(some 103), none, .bin .lss (t 99) (t 102)⟩])
  (.cond (t 103)
  .skip
  (.exit 5)))
  (.seq (.block 6
  (.seq (.draw 0 [(⟨(some 106), none, .faddr 2 (t 3)⟩, []), (⟨(some 107), none, .load false 1 (t 106)⟩, []), (⟨(some 108), none, .mv (t 13)⟩, []), (⟨(some 109), none, .iaddr 6 (t 107) (t 108)⟩, []), (⟨(some 110), none, .faddr 0 (t 109)⟩, []), (⟨(some 111), none, .load false 1 (t 110)⟩, []), (⟨(some 112), none, .faddr 5 (t 2)⟩, []), (⟨(some 113), none, .load false 1 (t 112)⟩, []), (⟨(some 114), none, .bin .eql (t 111) (t 113)⟩, []), (⟨(some 115), none, .mv (t 114)⟩, []), (⟨(some 116), (some (115, true)), .faddr 2 (t 3)⟩, []), (⟨(some 117), (some (115, true)), .load false 1 (t 116)⟩, []), (⟨(some 118), (some (115, true)), .mv (t 13)⟩, []), (⟨(some 119), (some (115, true)), .iaddr 6 (t 117) (t 118)⟩, []), (⟨(some 120), (some (115, true)), .faddr 1 (t 119)⟩, []), (⟨(some 121), (some (115, true)), .load false 1 (t 120)⟩, []), (⟨(some 122), (some (115, true)), .faddr 6 (t 2)⟩, []), (⟨(some 123), (some (115, true)), .load false 1 (t 122)⟩, []), (⟨(some 124), (some (115, true)), .bin .eql (t 121) (t 123)⟩, []), (⟨(some 125), none, .pick (t 115) (t 124) (k (.bool false))⟩, [])])
  (.cond (t 125)
  (.seq (.seq (.reg [⟨(some 126), none, .faddr 0 (t 2)⟩, ⟨(some 127), none, .load false 1 (t 126)⟩, ⟨(some 128), none, .bin .eql (t 127) (k (.str [104, 97, 115]))⟩])
  (.cond (t 128)
  (.seq (.reg [⟨(some 129), none, .pcall (k (.fn 43 [] [])) [(k (.bool true))]⟩, ⟨none, none, .store 4 (t 4) (t 129)⟩, ⟨(some 5), none, .mv (k (.int .i64 0))⟩])
  .ret)
  .skip))
  (.seq (.reg [⟨(some 130), none, .faddr 2 (t 3)⟩, ⟨(some 131), none, .load false 1 (t 130)⟩, ⟨(some 132), none, .mv (t 13)⟩, ⟨(some 133), none, .iaddr 6 (t 131) (t 132)⟩, ⟨(some 134), none, .faddr 2 (t 133)⟩, ⟨(some 135), none, .load true 4 (t 134)⟩, ⟨none, none, .store 4 (t 4) (t 135)⟩, ⟨(some 5), none, .mv (k (.int .i64 0))⟩])
  .ret))
  .skip)))
  (.reg [⟨(some 104), none, .mv (t 13)⟩, ⟨(some 105), none, .bin .add (t 104) (k (.int .i64 1))⟩, ⟨(some 13), none, .mv (t 105)⟩]))))))
  (.seq (.seq (.reg [⟨(some 136), none, .faddr 0 (t 2)⟩, ⟨(some 137), none, .load false 1 (t 136)⟩, ⟨(some 138), none, .bin .eql (t 137) (k (.str [104, 97, 115]))⟩])
  (.cond (t 138)
  (.seq (.reg [⟨(some 139), none, .pcall (k (.fn 43 [] [])) [(k (.bool false))]⟩, ⟨none, none, .store 4 (t 4) (t 139)⟩, ⟨(some 5), none, .mv (k (.int .i64 0))⟩])
  .ret)
  .skip))
  (.seq (.reg [⟨(some 140), none, .load true 4 (t 6)⟩, ⟨none, none, .store 4 (t 4) (t 140)⟩, ⟨(some 5), none, .mv (k (.int .i64 8))⟩])
  .ret)))
  (.seq (.reg [⟨(some 142), none, .bin .eql (t 67) (k (.str [110, 111, 116]))⟩, ⟨(some 141), none, .mv (t 142)⟩])
  (.cond (t 141)
  (.seq (.seq (.reg [⟨(some 143), none, .iarr 4 2 (t 7) (k (.int .i64 0))⟩, ⟨(some 144), none, .faddr 0 (t 143)⟩, ⟨(some 145), none, .load false 1 (t 144)⟩, ⟨(some 146), none, .bin .eql (t 145) (k (.int .i64 1))⟩])
  (.cond (t 146)
  (.seq (.reg [⟨(some 147), none, .iarr 4 2 (t 7) (k (.int .i64 0))⟩, ⟨(some 148), none, .faddr 1 (t 147)⟩, ⟨(some 149), none, .load false 1 (t 148)⟩, ⟨(some 150), none, .bin .eql (t 149) (k (.int .i64 0))⟩, ⟨(some 151), none, .pcall (k (.fn 43 [] [])) [(t 150)]⟩, ⟨none, none, .store 4 (t 4) (t 151)⟩, ⟨(some 5), none, .mv (k (.int .i64 0))⟩])
  .ret)
  .skip))
  (.seq (.reg [⟨(some 152), none, .load true 4 (t 6)⟩, ⟨none, none, .store 4 (t 4) (t 152)⟩, ⟨(some 5), none, .mv (k (.int .i64 6))⟩])
  .ret))
  (.seq (.reg [⟨(some 154), none, .bin .eql (t 67) (k (.str [110, 101, 103]))⟩, ⟨(some 153), none, .mv (t 154)⟩])
  (.cond (t 153)
  (.seq (.seq (.reg [⟨(some 155), none, .iarr 4 2 (t 7) (k (.int .i64 0))⟩, ⟨(some 156), none, .faddr 0 (t 155)⟩, ⟨(some 157), none, .load false 1 (t 156)⟩, ⟨(some 158), none, .bin .eql (t 157) (k (.int .i64 2))⟩])
  (.cond (t 158)
  (.seq (.reg [⟨(some 159), none, .build [(.int .i64 0), (.int .i64 0), (.str []), .nils] [(0, 1, (k (.int .i64 2)))]⟩, ⟨(some 160), none, .iarr 4 2 (t 7) (k (.int .i64 0))⟩, ⟨(some 161), none, .load true 4 (t 160)⟩, ⟨(some 162), none, .pcall (k (.fn 44 [] [])) [(t 159), (t 161), (k (.bool true))]⟩, ⟨(some 163), none, .ext 0 (t 162)⟩, ⟨(some 164), none, .ext 1 (t 162)⟩, ⟨none, none, .store 4 (t 4) (t 163)⟩, ⟨(some 5), none, .mv (t 164)⟩])
  .ret)
  .skip))
  (.seq (.reg [⟨(some 165), none, .load true 4 (t 6)⟩, ⟨none, none, .store 4 (t 4) (t 165)⟩, ⟨(some 5), none, .mv (k (.int .i64 6))⟩])
  .ret))
  (.seq (.reg [⟨(some 167), none, .bin .eql (t 67) (k (.str [115, 105, 122, 101]))⟩, ⟨(some 166), none, .mv (t 167)⟩])
  (.cond (t 166)
  (.seq (.seq (.reg [⟨(some 168), none, .iarr 4 2 (t 7) (k (.int .i64 0))⟩, ⟨(some 169), none, .faddr 0 (t 168)⟩, ⟨(some 170), none, .load false 1 (t 169)⟩, ⟨(some 171), none, .bin .eql (t 170) (k (.int .i64 5))⟩])
  (.cond (t 171)
  (.seq (.reg [⟨(some 172), none, .iarr 4 2 (t 7) (k (.int .i64 0))⟩, ⟨(some 173), none, .faddr 3 (t 172)⟩, ⟨(some 174), none, .load false 1 (t 173)⟩, ⟨(some 175), none, .len (t 174)⟩, ⟨(some 176), none, .build [(.int .i64 0), (.int .i64 0), (.str []), .nils] [(0, 1, (k (.int .i64 2))), (1, 1, (t 175))]⟩, ⟨none, none, .store 4 (t 4) (t 176)⟩, ⟨(some 5), none, .mv (k (.int .i64 0))⟩])
  .ret)
  .skip))
  (.seq (.reg [⟨(some 177), none, .load true 4 (t 6)⟩, ⟨none, none, .store 4 (t 4) (t 177)⟩, ⟨(some 5), none, .mv (k (.int .i64 6))⟩])
  .ret))
  .skip))))))))))))))))
  (.seq (.reg [⟨(some 178), none, .faddr 0 (t 2)⟩, ⟨(some 179), none, .load false 1 (t 178)⟩, ⟨(some 180), none, .iarr 4 2 (t 7) (k (.int .i64 0))⟩, ⟨(some 181), none, .load true 4 (t 180)⟩, ⟨(some 182), none, .iarr 4 2 (t 7) (k (.int .i64 1))⟩, ⟨(some 183), none, .load true 4 (t 182)⟩, ⟨(some 184), none, .pcall (k (.fn 45 [] [])) [(t 179), (t 181), (t 183)]⟩, ⟨(some 185), none, .ext 0 (t 184)⟩, ⟨(some 186), none, .ext 1 (t 184)⟩, ⟨none, none, .store 4 (t 4) (t 185)⟩, ⟨(some 5), none, .mv (t 186)⟩])
  .ret))))))))))
theorem fn26 : Fn Go.Proofs.Try.prog 26 187 [.inr (4, true, 4), .inl 5] c26 :=
  ⟨⟨_, _, Go.Proofs.Try.func26, rfl, by kernel_rfl, Go.Proofs.Try.ntmps26, by kernel_rfl, ⟨fun f => imp.contains f, false⟩, by kernel_rfl⟩⟩

def c28 : C :=
  (.seq (.reg [⟨(some 3), none, .box (t 1)⟩, ⟨(some 4), none, .alloc [(.str []), (.int .i64 0), (.int .i64 0), (.str []), .nils, (.str []), (.str []), .nils]⟩])
  (.seq (.reg [⟨(some 5), none, .mv (t 0)⟩, ⟨(some 6), none, .load true 8 (t 3)⟩, ⟨(some 7), none, .bsl 8 [(t 6)]⟩, ⟨(some 8), none, .build [(.str []), (.int .i64 0), (.int .i64 0), (.str []), .nils, (.str []), (.str []), .nils] [(0, 1, (t 5)), (7, 1, (t 7))]⟩, ⟨none, none, .store 8 (t 4) (t 8)⟩])
  .ret))
theorem fn28 : Fn Go.Proofs.Try.prog 28 9 [.inr (4, true, 8)] c28 :=
  ⟨⟨_, _, Go.Proofs.Try.func28, rfl, by kernel_rfl, Go.Proofs.Try.ntmps28, by kernel_rfl, ⟨fun f => imp.contains f, false⟩, by kernel_rfl⟩⟩

def c31 : C :=
  (.seq (.reg [⟨(some 1), none, .box (t 0)⟩, ⟨(some 2), none, .mv (k (.bool false))⟩])
  (.seq (.seq (.reg [⟨(some 4), none, .faddr 0 (t 1)⟩, ⟨(some 5), none, .load false 1 (t 4)⟩, ⟨(some 6), none, .lens (t 5)⟩, ⟨(some 7), none, .bin .gtr (t 6) (k (.int .i64 200))⟩, ⟨(some 8), none, .mv (t 7)⟩, ⟨(some 9), (some (8, false)), .faddr 5 (t 1)⟩, ⟨(some 10), (some (8, false)), .load false 1 (t 9)⟩, ⟨(some 11), (some (8, false)), .lens (t 10)⟩, ⟨(some 12), (some (8, false)), .bin .gtr (t 11) (k (.int .i64 200))⟩, ⟨(some 13), none, .pick (t 8) (k (.bool true)) (t 12)⟩, ⟨(some 14), none, .mv (t 13)⟩, ⟨(some 15), (some (14, false)), .faddr 6 (t 1)⟩, ⟨(some 16), (some (14, false)), .load false 1 (t 15)⟩, ⟨(some 17), (some (14, false)), .lens (t 16)⟩, ⟨(some 18), (some (14, false)), .bin .gtr (t 17) (k (.int .i64 200))⟩, ⟨(some 19), none, .pick (t 14) (k (.bool true)) (t 18)⟩, ⟨(some 20), none, .mv (t 19)⟩, ⟨(some 21), (some (20, false)), .faddr 1 (t 1)⟩, ⟨(some 22), (some (20, false)), .load true 4 (t 21)⟩, ⟨(some 23), (some (20, false)), .bsl 4 [(t 22)]⟩, ⟨(some 24), (some (20, false)), .pcall (k (.fn 19 [] [])) [(t 23), (k (.int .i64 1))]⟩, ⟨(some 25), (some (20, false)), .un .not (t 24)⟩, ⟨(some 26), none, .pick (t 20) (k (.bool true)) (t 25)⟩])
  (.cond (t 26)
  (.seq (.reg [⟨(some 2), none, .mv (k (.bool false))⟩])
  .ret)
  .skip))
  (.seq (.seq (.reg [⟨(some 3), none, .mv (k (.int .i64 0))⟩])
  (.block 0
  (.loop
  (.seq (.seq (.reg [⟨(some 27), none, .mv (t 3)⟩, ⟨(some 28), none, .faddr 7 (t 1)⟩, ⟨(some 29), none, .load false 1 (t 28)⟩, ⟨(some 30), none, .len (t 29)⟩, ⟨(some 31), none, .bin .lss (t 27) (t 30)⟩])
  (.cond (t 31)
  .skip
  (.exit 0)))
  (.seq (.block 1
  (.seq (.reg [⟨(some 34), none, .faddr 7 (t 1)⟩, ⟨(some 35), none, .load false 1 (t 34)⟩, ⟨(some 36), none, .mv (t 3)⟩, ⟨(some 37), none, .iaddr 8 (t 35) (t 36)⟩, ⟨(some 38), none, .load true 8 (t 37)⟩, ⟨(some 39), none, .pcall (k (.fn 31 [] [])) [(t 38)]⟩, ⟨(some 40), none, .un .not (t 39)⟩])
  (.cond (t 40)
  (.seq (.reg [⟨(some 2), none, .mv (k (.bool false))⟩])
  .ret)
  .skip)))
  (.reg [⟨(some 32), none, .mv (t 3)⟩, ⟨(some 33), none, .bin .add (t 32) (k (.int .i64 1))⟩, ⟨(some 3), none, .mv (t 33)⟩]))))))
  (.seq (.reg [⟨(some 2), none, .mv (k (.bool true))⟩])
  .ret))))
theorem fn31 : Fn Go.Proofs.Try.prog 31 41 [.inl 2] c31 :=
  ⟨⟨_, _, Go.Proofs.Try.func31, rfl, by kernel_rfl, Go.Proofs.Try.ntmps31, by kernel_rfl, ⟨fun f => imp.contains f, false⟩, by kernel_rfl⟩⟩

def c43 : C :=
  (.seq (.reg [⟨(some 2), none, .alloc [(.int .i64 0), (.int .i64 0), (.str []), .nils]⟩])
  (.seq (.seq (.reg [⟨(some 3), none, .mv (t 0)⟩])
  (.cond (t 3)
  (.seq (.reg [⟨(some 4), none, .build [(.int .i64 0), (.int .i64 0), (.str []), .nils] [(0, 1, (k (.int .i64 1))), (1, 1, (k (.int .i64 1)))]⟩, ⟨none, none, .store 4 (t 2) (t 4)⟩])
  .ret)
  .skip))
  (.seq (.reg [⟨(some 5), none, .build [(.int .i64 0), (.int .i64 0), (.str []), .nils] [(0, 1, (k (.int .i64 1)))]⟩, ⟨none, none, .store 4 (t 2) (t 5)⟩])
  .ret)))
theorem fn43 : Fn Go.Proofs.Try.prog 43 6 [.inr (2, true, 4)] c43 :=
  ⟨⟨_, _, Go.Proofs.Try.func43, rfl, by kernel_rfl, Go.Proofs.Try.ntmps43, by kernel_rfl, ⟨fun f => imp.contains f, false⟩, by kernel_rfl⟩⟩

def c44 : C :=
  (.seq (.reg [⟨(some 3), none, .box (t 0)⟩, ⟨(some 4), none, .box (t 1)⟩, ⟨(some 6), none, .alloc [(.int .i64 0), (.int .i64 0), (.str []), .nils]⟩, ⟨(some 7), none, .mv (k (.int .i64 0))⟩])
  (.seq (.reg [⟨(some 12), none, .faddr 1 (t 4)⟩, ⟨(some 13), none, .load false 1 (t 12)⟩, ⟨(some 14), none, .pcall (k (.fn 60 [] [])) [(t 13)]⟩, ⟨(some 8), none, .alloc [(.int .i64 0), (.int .u64 0)]⟩, ⟨none, none, .store 2 (t 8) (t 14)⟩])
  (.seq (.seq (.reg [⟨(some 15), none, .mv (t 2)⟩])
  (.cond (t 15)
  (.reg [⟨(some 16), none, .load true 2 (t 8)⟩, ⟨(some 17), none, .pcall (k (.fn 61 [] [])) [(t 16)]⟩, ⟨none, none, .store 2 (t 8) (t 17)⟩])
  .skip))
  (.seq (.draw 0 [(⟨(some 19), none, .faddr 1 (t 3)⟩, []), (⟨(some 20), none, .load false 1 (t 19)⟩, []), (⟨(some 21), none, .pcall (k (.fn 60 [] [])) [(t 20)]⟩, []), (⟨(some 22), none, .load true 2 (t 8)⟩, []), (⟨(some 23), none, .pcall (k (.fn 62 [] [])) [(t 21), (t 22)]⟩, []), (⟨(some 24), none, .pcall (k (.fn 63 [] [])) [(t 23)]⟩, []), (⟨(some 18), none, .mv (t 24)⟩, []), (⟨(some 25), none, .ext 0 (t 18)⟩, []), (⟨(some 26), none, .ext 1 (t 18)⟩, []), (⟨(some 9), none, .mv (t 25)⟩, []), (⟨(some 10), none, .mv (t 26)⟩, [])])
  (.seq (.reg [⟨(some 11), none, .mv (k (.int .i64 0))⟩])
  (.seq (.seq (.reg [⟨(some 27), none, .faddr 0 (t 3)⟩, ⟨(some 28), none, .load false 1 (t 27)⟩, ⟨(some 29), none, .bin .eql (t 28) (k (.int .i64 2))⟩, ⟨(some 30), none, .mv (t 29)⟩, ⟨(some 31), (some (30, true)), .faddr 0 (t 4)⟩, ⟨(some 32), (some (30, true)), .load false 1 (t 31)⟩, ⟨(some 33), (some (30, true)), .bin .eql (t 32) (k (.int .i64 2))⟩, ⟨(some 34), none, .pick (t 30) (t 33) (k (.bool false))⟩, ⟨(some 35), none, .mv (t 34)⟩, ⟨(some 36), (some (35, false)), .mv (t 2)⟩, ⟨(some 37), (some (35, false)), .mv (t 36)⟩, ⟨(some 38), (some (37, true)), .faddr 0 (t 3)⟩, ⟨(some 39), (some (37, true)), .load false 1 (t 38)⟩, ⟨(some 40), (some (37, true)), .bin .eql (t 39) (k (.int .i64 4))⟩, ⟨(some 41), (some (35, false)), .pick (t 37) (t 40) (k (.bool false))⟩, ⟨(some 42), (some (35, false)), .mv (t 41)⟩, ⟨(some 43), (some (42, true)), .faddr 0 (t 4)⟩, ⟨(some 44), (some (42, true)), .load false 1 (t 43)⟩, ⟨(some 45), (some (42, true)), .bin .eql (t 44) (k (.int .i64 4))⟩, ⟨(some 46), (some (35, false)), .pick (t 42) (t 45) (k (.bool false))⟩, ⟨(some 47), none, .pick (t 35) (k (.bool true)) (t 46)⟩])
  (.cond (t 47)
  (.reg [⟨(some 11), none, .mv (k (.int .i64 2))⟩])
  .skip))
  (.seq (.seq (.reg [⟨(some 48), none, .faddr 0 (t 3)⟩, ⟨(some 49), none, .load false 1 (t 48)⟩, ⟨(some 50), none, .bin .eql (t 49) (k (.int .i64 4))⟩, ⟨(some 51), none, .mv (t 50)⟩, ⟨(some 52), (some (51, true)), .faddr 0 (t 4)⟩, ⟨(some 53), (some (51, true)), .load false 1 (t 52)⟩, ⟨(some 54), (some (51, true)), .bin .eql (t 53) (k (.int .i64 2))⟩, ⟨(some 55), none, .pick (t 51) (t 54) (k (.bool false))⟩])
  (.cond (t 55)
  (.reg [⟨(some 11), none, .mv (k (.int .i64 4))⟩])
  .skip))
  (.seq (.seq (.reg [⟨(some 56), none, .mv (t 11)⟩, ⟨(some 57), none, .bin .eql (t 56) (k (.int .i64 0))⟩])
  (.cond (t 57)
  (.seq (.reg [⟨(some 58), none, .build [(.int .i64 0), (.int .i64 0), (.str []), .nils] []⟩, ⟨none, none, .store 4 (t 6) (t 58)⟩, ⟨(some 7), none, .mv (k (.int .i64 6))⟩])
  .ret)
  .skip))
  (.seq (.seq (.reg [⟨(some 59), none, .mv (t 10)⟩, ⟨(some 60), none, .un .not (t 59)⟩, ⟨(some 61), none, .mv (t 60)⟩, ⟨(some 62), (some (61, false)), .mv (t 11)⟩, ⟨(some 63), (some (61, false)), .bin .eql (t 62) (k (.int .i64 4))⟩, ⟨(some 64), (some (61, false)), .mv (t 63)⟩, ⟨(some 65), (some (64, true)), .mv (t 9)⟩, ⟨(some 66), (some (64, true)), .bin .lss (t 65) (k (.int .i64 0))⟩, ⟨(some 67), (some (64, true)), .mv (t 66)⟩, ⟨(some 68), (some (67, false)), .mv (t 9)⟩, ⟨(some 69), (some (67, false)), .bin .gtr (t 68) (k (.int .i64 1099511627776))⟩, ⟨(some 70), (some (64, true)), .pick (t 67) (k (.bool true)) (t 69)⟩, ⟨(some 71), (some (61, false)), .pick (t 64) (t 70) (k (.bool false))⟩, ⟨(some 72), none, .pick (t 61) (k (.bool true)) (t 71)⟩])
  (.cond (t 72)
  (.seq (.reg [⟨(some 73), none, .build [(.int .i64 0), (.int .i64 0), (.str []), .nils] []⟩, ⟨none, none, .store 4 (t 6) (t 73)⟩, ⟨(some 7), none, .mv (k (.int .i64 7))⟩])
  .ret)
  .skip))
  (.seq (.reg [⟨(some 74), none, .mv (t 11)⟩, ⟨(some 75), none, .mv (t 9)⟩, ⟨(some 76), none, .build [(.int .i64 0), (.int .i64 0), (.str []), .nils] [(0, 1, (t 74)), (1, 1, (t 75))]⟩, ⟨none, none, .store 4 (t 6) (t 76)⟩, ⟨(some 7), none, .mv (k (.int .i64 0))⟩])
  .ret))))))))))
theorem fn44 : Fn Go.Proofs.Try.prog 44 77 [.inr (6, true, 4), .inl 7] c44 :=
  ⟨⟨_, _, Go.Proofs.Try.func44, rfl, by kernel_rfl, Go.Proofs.Try.ntmps44, by kernel_rfl, ⟨fun f => imp.contains f, false⟩, by kernel_rfl⟩⟩

def c59 : C :=
  (.seq (.reg [⟨(some 2), none, .box (t 0)⟩, ⟨(some 3), none, .box (t 1)⟩, ⟨(some 4), none, .mv (k (.int .i64 0))⟩])
  (.seq (.seq (.draw 0 [(⟨(some 6), none, .faddr 0 (t 2)⟩, []), (⟨(some 7), none, .load false 1 (t 6)⟩, []), (⟨(some 8), none, .faddr 0 (t 3)⟩, []), (⟨(some 9), none, .load false 1 (t 8)⟩, []), (⟨(some 10), none, .pcall (k (.fn 83 [] [])) [(t 7), (t 9)]⟩, []), (⟨(some 11), none, .faddr 1 (t 2)⟩, []), (⟨(some 12), none, .load false 1 (t 11)⟩, []), (⟨(some 13), none, .faddr 1 (t 3)⟩, []), (⟨(some 14), none, .load false 1 (t 13)⟩, []), (⟨(some 15), none, .pcall (k (.fn 84 [] [])) [(t 12), (t 14)]⟩, []), (⟨(some 16), none, .faddr 2 (t 2)⟩, []), (⟨(some 17), none, .load false 1 (t 16)⟩, []), (⟨(some 18), none, .faddr 2 (t 3)⟩, []), (⟨(some 19), none, .load false 1 (t 18)⟩, []), (⟨(some 20), none, .pcall (k (.fn 85 [] [])) [(t 17), (t 19)]⟩, []), (⟨(some 21), none, .bslq 1 [(t 10), (t 15), (t 20)]⟩, []), (⟨(some 22), none, .pcall (k (.fn 82 [] [])) [(t 21)]⟩, []), (⟨(some 5), none, .mv (t 22)⟩, [])])
  (.seq (.reg [⟨(some 23), none, .mv (t 5)⟩, ⟨(some 24), none, .bin .neq (t 23) (k (.int .i64 0))⟩])
  (.cond (t 24)
  (.seq (.reg [⟨(some 25), none, .mv (t 5)⟩, ⟨(some 4), none, .mv (t 25)⟩])
  .ret)
  .skip)))
  (.seq (.reg [⟨(some 26), none, .faddr 3 (t 2)⟩, ⟨(some 27), none, .load false 1 (t 26)⟩, ⟨(some 28), none, .faddr 3 (t 3)⟩, ⟨(some 29), none, .load false 1 (t 28)⟩, ⟨(some 30), none, .pcall (k (.fn 86 [] [])) [(t 27), (t 29), (k (.fn 59 [] []))]⟩, ⟨(some 4), none, .mv (t 30)⟩])
  .ret)))
theorem fn59 : Fn Go.Proofs.Try.prog 59 31 [.inl 4] c59 :=
  ⟨⟨_, _, Go.Proofs.Try.func59, rfl, by kernel_rfl, Go.Proofs.Try.ntmps59, by kernel_rfl, ⟨fun f => imp.contains f, false⟩, by kernel_rfl⟩⟩

def c60 : C :=
  (.seq (.reg [⟨(some 2), none, .alloc [(.int .i64 0), (.int .u64 0)]⟩])
  (.seq (.seq (.reg [⟨(some 3), none, .mv (t 0)⟩, ⟨(some 4), none, .bin .lss (t 3) (k (.int .i64 0))⟩])
  (.cond (t 4)
  (.seq (.reg [⟨(some 5), none, .mv (t 0)⟩, ⟨(some 6), none, .conv .u64 (t 5)⟩, ⟨(some 7), none, .build [(.int .i64 0), (.int .u64 0)] [(0, 1, (k (.int .i64 (-1)))), (1, 1, (t 6))]⟩, ⟨none, none, .store 2 (t 2) (t 7)⟩])
  .ret)
  .skip))
  (.seq (.reg [⟨(some 8), none, .mv (t 0)⟩, ⟨(some 9), none, .conv .u64 (t 8)⟩, ⟨(some 10), none, .build [(.int .i64 0), (.int .u64 0)] [(1, 1, (t 9))]⟩, ⟨none, none, .store 2 (t 2) (t 10)⟩])
  .ret)))
theorem fn60 : Fn Go.Proofs.Try.prog 60 11 [.inr (2, true, 2)] c60 :=
  ⟨⟨_, _, Go.Proofs.Try.func60, rfl, by kernel_rfl, Go.Proofs.Try.ntmps60, by kernel_rfl, ⟨fun f => imp.contains f, false⟩, by kernel_rfl⟩⟩

def c65 : C :=
  (.seq (.reg [⟨(some 2), none, .box (t 0)⟩, ⟨(some 3), none, .box (t 1)⟩, ⟨(some 4), none, .mv (k (.int .i64 0))⟩])
  (.seq (.seq (.reg [⟨(some 7), none, .faddr 0 (t 2)⟩, ⟨(some 8), none, .load false 1 (t 7)⟩, ⟨(some 9), none, .bin .neq (t 8) (k (.int .i64 5))⟩, ⟨(some 10), none, .mv (t 9)⟩, ⟨(some 11), (some (10, false)), .faddr 0 (t 3)⟩, ⟨(some 12), (some (10, false)), .load false 1 (t 11)⟩, ⟨(some 13), (some (10, false)), .bin .neq (t 12) (k (.int .i64 5))⟩, ⟨(some 14), none, .pick (t 10) (k (.bool true)) (t 13)⟩])
  (.cond (t 14)
  (.seq (.reg [⟨(some 15), none, .load true 4 (t 2)⟩, ⟨(some 16), none, .load true 4 (t 3)⟩, ⟨(some 17), none, .pcall (k (.fn 38 [] [])) [(t 15), (t 16)]⟩, ⟨(some 4), none, .mv (t 17)⟩])
  .ret)
  .skip))
  (.seq (.seq (.reg [⟨(some 5), none, .mv (k (.int .i64 0))⟩])
  (.block 0
  (.loop
  (.seq (.seq (.reg [⟨(some 18), none, .mv (t 5)⟩, ⟨(some 19), none, .faddr 3 (t 2)⟩, ⟨(some 20), none, .load false 1 (t 19)⟩, ⟨(some 21), none, .len (t 20)⟩, ⟨(some 22), none, .bin .lss (t 18) (t 21)⟩, ⟨(some 23), none, .mv (t 22)⟩, ⟨(some 24), (some (23, true)), .mv (t 5)⟩, ⟨(some 25), (some (23, true)), .faddr 3 (t 3)⟩, ⟨(some 26), (some (23, true)), .load false 1 (t 25)⟩, ⟨(some 27), (some (23, true)), .len (t 26)⟩, ⟨(some 28), (some (23, true)), .bin .lss (t 24) (t 27)⟩, ⟨(some 29), none, .pick (t 23) (t 28) (k (.bool false))⟩])
  (.cond (t 29)
  .skip
  (.exit 0)))
  (.seq (.block 1
  (.seq (.draw 0 [(⟨(some 32), none, .faddr 3 (t 2)⟩, []), (⟨(some 33), none, .load false 1 (t 32)⟩, []), (⟨(some 34), none, .mv (t 5)⟩, []), (⟨(some 35), none, .iaddr 4 (t 33) (t 34)⟩, []), (⟨(some 36), none, .load true 4 (t 35)⟩, []), (⟨(some 37), none, .faddr 3 (t 3)⟩, []), (⟨(some 38), none, .load false 1 (t 37)⟩, []), (⟨(some 39), none, .mv (t 5)⟩, []), (⟨(some 40), none, .iaddr 4 (t 38) (t 39)⟩, []), (⟨(some 41), none, .load true 4 (t 40)⟩, []), (⟨(some 42), none, .pcall (k (.fn 38 [] [])) [(t 36), (t 41)]⟩, []), (⟨(some 6), none, .mv (t 42)⟩, [])])
  (.seq (.reg [⟨(some 43), none, .mv (t 6)⟩, ⟨(some 44), none, .bin .neq (t 43) (k (.int .i64 0))⟩])
  (.cond (t 44)
  (.seq (.reg [⟨(some 45), none, .mv (t 6)⟩, ⟨(some 4), none, .mv (t 45)⟩])
  .ret)
  .skip))))
  (.reg [⟨(some 30), none, .mv (t 5)⟩, ⟨(some 31), none, .bin .add (t 30) (k (.int .i64 1))⟩, ⟨(some 5), none, .mv (t 31)⟩]))))))
  (.seq (.reg [⟨(some 46), none, .faddr 3 (t 2)⟩, ⟨(some 47), none, .load false 1 (t 46)⟩, ⟨(some 48), none, .len (t 47)⟩, ⟨(some 49), none, .faddr 3 (t 3)⟩, ⟨(some 50), none, .load false 1 (t 49)⟩, ⟨(some 51), none, .len (t 50)⟩, ⟨(some 52), none, .pcall (k (.fn 56 [] [])) [(t 48), (t 51)]⟩, ⟨(some 4), none, .mv (t 52)⟩])
  .ret))))
theorem fn65 : Fn Go.Proofs.Try.prog 65 53 [.inl 4] c65 :=
  ⟨⟨_, _, Go.Proofs.Try.func65, rfl, by kernel_rfl, Go.Proofs.Try.ntmps65, by kernel_rfl, ⟨fun f => imp.contains f, false⟩, by kernel_rfl⟩⟩

def c75 : C :=
  (.seq (.reg [⟨(some 2), none, .box (t 0)⟩, ⟨(some 3), none, .box (t 1)⟩, ⟨(some 4), none, .alloc [(.int .i64 0), (.int .i64 0), (.str []), .nils]⟩, ⟨(some 5), none, .mv (k (.int .i64 0))⟩])
  (.seq (.seq (.reg [⟨(some 6), none, .load true 4 (t 2)⟩, ⟨(some 7), none, .pcall (k (.fn 40 [] [])) [(t 6)]⟩, ⟨(some 8), none, .un .not (t 7)⟩, ⟨(some 9), none, .mv (t 8)⟩, ⟨(some 10), (some (9, false)), .load true 4 (t 3)⟩, ⟨(some 11), (some (9, false)), .pcall (k (.fn 40 [] [])) [(t 10)]⟩, ⟨(some 12), (some (9, false)), .un .not (t 11)⟩, ⟨(some 13), none, .pick (t 9) (k (.bool true)) (t 12)⟩])
  (.cond (t 13)
  (.seq (.reg [⟨(some 14), none, .build [(.int .i64 0), (.int .i64 0), (.str []), .nils] []⟩, ⟨none, none, .store 4 (t 4) (t 14)⟩, ⟨(some 5), none, .mv (k (.int .i64 1))⟩])
  .ret)
  .skip))
  (.seq (.seq (.reg [⟨(some 15), none, .load true 4 (t 2)⟩, ⟨(some 16), none, .load true 4 (t 3)⟩, ⟨(some 17), none, .pcall (k (.fn 91 [] [])) [(t 15), (t 16)]⟩])
  (.block 0
  (.seq (.seq (.reg [⟨(some 19), none, .build [(.int .i64 0), (.int .i64 0)] [(0, 1, (k (.int .i64 2))), (1, 1, (k (.int .i64 2)))]⟩, ⟨(some 20), none, .eqa [.int, .int] false (t 17) (t 19)⟩, ⟨(some 18), none, .mv (t 20)⟩])
  (.cond (t 18)
  .skip
  (.reg [⟨(some 21), none, .build [(.int .i64 0), (.int .i64 0)] [(0, 1, (k (.int .i64 4))), (1, 1, (k (.int .i64 4)))]⟩, ⟨(some 22), none, .eqa [.int, .int] false (t 17) (t 21)⟩, ⟨(some 18), none, .mv (t 22)⟩])))
  (.cond (t 18)
  (.seq (.reg [⟨(some 23), none, .faddr 1 (t 2)⟩, ⟨(some 24), none, .load false 1 (t 23)⟩, ⟨(some 25), none, .faddr 1 (t 3)⟩, ⟨(some 26), none, .load false 1 (t 25)⟩, ⟨(some 27), none, .pcall (k (.fn 93 [] [])) [(t 24), (t 26)]⟩, ⟨(some 28), none, .ext 0 (t 27)⟩, ⟨(some 29), none, .ext 1 (t 27)⟩, ⟨(some 30), none, .pcall (k (.fn 92 [] [])) [(t 28), (t 29)]⟩, ⟨(some 31), none, .ext 0 (t 30)⟩, ⟨(some 32), none, .ext 1 (t 30)⟩, ⟨none, none, .store 4 (t 4) (t 31)⟩, ⟨(some 5), none, .mv (t 32)⟩])
  .ret)
  (.seq (.reg [⟨(some 34), none, .build [(.int .i64 0), (.int .i64 0)] [(0, 1, (k (.int .i64 4))), (1, 1, (k (.int .i64 2)))]⟩, ⟨(some 35), none, .eqa [.int, .int] false (t 17) (t 34)⟩, ⟨(some 33), none, .mv (t 35)⟩])
  (.cond (t 33)
  (.seq (.reg [⟨(some 36), none, .faddr 1 (t 2)⟩, ⟨(some 37), none, .load false 1 (t 36)⟩, ⟨(some 38), none, .faddr 1 (t 3)⟩, ⟨(some 39), none, .load false 1 (t 38)⟩, ⟨(some 40), none, .pcall (k (.fn 93 [] [])) [(t 37), (t 39)]⟩, ⟨(some 41), none, .ext 0 (t 40)⟩, ⟨(some 42), none, .ext 1 (t 40)⟩, ⟨(some 43), none, .pcall (k (.fn 94 [] [])) [(t 41), (t 42)]⟩, ⟨(some 44), none, .ext 0 (t 43)⟩, ⟨(some 45), none, .ext 1 (t 43)⟩, ⟨none, none, .store 4 (t 4) (t 44)⟩, ⟨(some 5), none, .mv (t 45)⟩])
  .ret)
  .skip))))))
  (.seq (.reg [⟨(some 46), none, .build [(.int .i64 0), (.int .i64 0), (.str []), .nils] []⟩, ⟨none, none, .store 4 (t 4) (t 46)⟩, ⟨(some 5), none, .mv (k (.int .i64 6))⟩])
  .ret))))
theorem fn75 : Fn Go.Proofs.Try.prog 75 47 [.inr (4, true, 4), .inl 5] c75 :=
  ⟨⟨_, _, Go.Proofs.Try.func75, rfl, by kernel_rfl, Go.Proofs.Try.ntmps75, by kernel_rfl, ⟨fun f => imp.contains f, false⟩, by kernel_rfl⟩⟩

def c83 : C :=
  (.seq (.reg [⟨(some 4), none, .mv (k (.int .i64 0))⟩])
  (.seq (.reg [⟨(some 7), none, .mv (t 0)⟩, ⟨(some 8), none, .pcall (k (.fn 99 [] [])) [(t 7)]⟩, ⟨(some 5), none, .mv (t 8)⟩])
  (.seq (.reg [⟨(some 9), none, .mv (t 1)⟩, ⟨(some 10), none, .pcall (k (.fn 99 [] [])) [(t 9)]⟩, ⟨(some 6), none, .mv (t 10)⟩])
  (.seq (.seq (.reg [⟨(some 11), none, .mv (t 5)⟩])
  (.cond (t 11)
  (.seq (.seq (.reg [⟨(some 12), none, .mv (t 6)⟩])
  (.cond (t 12)
  (.seq (.reg [⟨(some 4), none, .mv (k (.int .i64 0))⟩])
  .ret)
  .skip))
  (.seq (.reg [⟨(some 4), none, .mv (k (.int .i64 (-1)))⟩])
  .ret))
  .skip))
  (.seq (.seq (.reg [⟨(some 13), none, .mv (t 6)⟩])
  (.cond (t 13)
  (.seq (.reg [⟨(some 4), none, .mv (k (.int .i64 1))⟩])
  .ret)
  .skip))
  (.seq (.seq (.reg [⟨(some 14), none, .mv (t 0)⟩, ⟨(some 15), none, .mv (t 1)⟩, ⟨(some 16), none, .bin .lss (t 14) (t 15)⟩])
  (.cond (t 16)
  (.seq (.reg [⟨(some 4), none, .mv (k (.int .i64 (-1)))⟩])
  .ret)
  .skip))
  (.seq (.seq (.reg [⟨(some 17), none, .mv (t 0)⟩, ⟨(some 18), none, .mv (t 1)⟩, ⟨(some 19), none, .bin .gtr (t 17) (t 18)⟩])
  (.cond (t 19)
  (.seq (.reg [⟨(some 4), none, .mv (k (.int .i64 1))⟩])
  .ret)
  .skip))
  (.seq (.reg [⟨(some 4), none, .mv (k (.int .i64 0))⟩])
  .ret))))))))
theorem fn83 : Fn Go.Proofs.Try.prog 83 20 [.inl 4] c83 :=
  ⟨⟨_, _, Go.Proofs.Try.func83, rfl, by kernel_rfl, Go.Proofs.Try.ntmps83, by kernel_rfl, ⟨fun f => imp.contains f, false⟩, by kernel_rfl⟩⟩

def c87 : C :=
  (.seq (.reg [⟨(some 4), none, .mv (k (.int .i64 0))⟩])
  (.seq (.seq (.reg [⟨(some 6), none, .mv (t 0)⟩, ⟨(some 7), none, .len (t 6)⟩, ⟨(some 8), none, .mv (k (.int .i64 0))⟩])
  (.block 0
  (.loop
  (.seq (.reg [⟨(some 9), none, .bin .lss (t 8) (t 7)⟩])
  (.seq (.cond (t 9)
  .skip
  (.exit 0))
  (.seq (.block 1
  (.seq (.reg [⟨(some 10), none, .mv (t 8)⟩, ⟨(some 5), none, .mv (t 10)⟩])
  (.seq (.reg [⟨(some 11), none, .mv (t 1)⟩, ⟨(some 12), none, .mv (t 0)⟩, ⟨(some 13), none, .mv (t 5)⟩, ⟨(some 14), none, .iaddr 8 (t 12) (t 13)⟩, ⟨(some 15), none, .load true 8 (t 14)⟩, ⟨(some 16), none, .pcall (t 11) [(t 15)]⟩])
  (.cond (t 16)
  (.seq (.reg [⟨(some 17), none, .mv (t 5)⟩, ⟨(some 4), none, .mv (t 17)⟩])
  .ret)
  .skip))))
  (.reg [⟨(some 18), none, .bin .add (t 8) (k (.int .i64 1))⟩, ⟨(some 8), none, .mv (t 18)⟩])))))))
  (.seq (.reg [⟨(some 4), none, .mv (k (.int .i64 (-1)))⟩])
  .ret)))
theorem fn87 : Fn Go.Proofs.Try.prog 87 19 [.inl 4] c87 :=
  ⟨⟨_, _, Go.Proofs.Try.func87, rfl, by kernel_rfl, Go.Proofs.Try.ntmps87, by kernel_rfl, ⟨fun f => imp.contains f, false⟩, by kernel_rfl⟩⟩

def c92 : C :=
  (.seq (.reg [⟨(some 4), none, .alloc [(.int .i64 0), (.int .i64 0), (.str []), .nils]⟩, ⟨(some 5), none, .mv (k (.int .i64 0))⟩])
  (.seq (.seq (.reg [⟨(some 6), none, .mv (t 1)⟩, ⟨(some 7), none, .un .not (t 6)⟩])
  (.cond (t 7)
  (.seq (.reg [⟨(some 8), none, .build [(.int .i64 0), (.int .i64 0), (.str []), .nils] []⟩, ⟨none, none, .store 4 (t 4) (t 8)⟩, ⟨(some 5), none, .mv (k (.int .i64 7))⟩])
  .ret)
  .skip))
  (.seq (.reg [⟨(some 9), none, .mv (t 0)⟩, ⟨(some 10), none, .pcall (k (.fn 76 [] [])) [(t 9)]⟩, ⟨none, none, .store 4 (t 4) (t 10)⟩, ⟨(some 5), none, .mv (k (.int .i64 0))⟩])
  .ret)))
theorem fn92 : Fn Go.Proofs.Try.prog 92 11 [.inr (4, true, 4), .inl 5] c92 :=
  ⟨⟨_, _, Go.Proofs.Try.func92, rfl, by kernel_rfl, Go.Proofs.Try.ntmps92, by kernel_rfl, ⟨fun f => imp.contains f, false⟩, by kernel_rfl⟩⟩

end GP
