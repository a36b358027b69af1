import Derived.Test.YtnipbngimicldaaGpYe
import Derived.Test.YtnipbngimicldaaGpbi
import Derived.Test.YtnipbngimicldaaProg
namespace GP
open Go Go.Proofs
open Rd O
set_option maxRecDepth 100000
def c11 : C :=
  (.seq (.reg [⟨(some 0), none, .mv (k (.bool false))⟩])
  (.seq (.reg [⟨(some 4), none, .build [(.str []), (.int .i64 0), (.int .i64 0), (.str []), .nils, (.str []), (.str []), .nils] [(0, 1, (k (.str [110, 111, 119])))]⟩, ⟨(some 5), none, .build [(.int .i64 0), .nils, .nils] [(0, 1, (k (.int .i64 5)))]⟩, ⟨(some 6), none, .pcall (k (.fn 17 [] [])) [(t 4), (t 5)]⟩, ⟨(some 3), none, .mv (t 6)⟩, ⟨(some 7), none, .ext 0 (t 3)⟩, ⟨(some 8), none, .ext 1 (t 3)⟩, ⟨(some 1), none, .alloc [(.int .i64 0), (.int .i64 0), (.str []), .nils]⟩, ⟨none, none, .store 4 (t 1) (t 7)⟩, ⟨(some 2), none, .mv (t 8)⟩])
  (.seq (.reg [⟨(some 9), none, .mv (t 2)⟩, ⟨(some 10), none, .bin .eql (t 9) (k (.int .i64 0))⟩, ⟨(some 11), none, .mv (t 10)⟩, ⟨(some 12), (some (11, true)), .faddr 0 (t 1)⟩, ⟨(some 13), (some (11, true)), .load false 1 (t 12)⟩, ⟨(some 14), (some (11, true)), .bin .eql (t 13) (k (.int .i64 4))⟩, ⟨(some 15), none, .pick (t 11) (t 14) (k (.bool false))⟩, ⟨(some 16), none, .mv (t 15)⟩, ⟨(some 17), (some (16, true)), .faddr 1 (t 1)⟩, ⟨(some 18), (some (16, true)), .load false 1 (t 17)⟩, ⟨(some 19), (some (16, true)), .bin .eql (t 18) (k (.int .i64 5))⟩, ⟨(some 20), none, .pick (t 16) (t 19) (k (.bool false))⟩, ⟨(some 0), none, .mv (t 20)⟩])
  .ret)))
theorem fn11 : Fn Go.Proofs.Try.prog 11 21 [.inl 0] c11 :=
  ⟨⟨_, _, Go.Proofs.Try.func11, rfl, by kernel_rfl, Go.Proofs.Try.ntmps11, by kernel_rfl, ⟨fun f => imp.contains f, false⟩, by kernel_rfl⟩⟩

def c16 : C :=
  (.seq (.reg [⟨(some 3), none, .box (t 1)⟩, ⟨(some 4), none, .mv (k (.bool false))⟩])
  (.seq (.seq (.reg [⟨(some 10), none, .load true 3 (t 3)⟩, ⟨(some 11), none, .pcall (k (.fn 24 [] [])) [(t 10)]⟩, ⟨(some 12), none, .un .not (t 11)⟩])
  (.cond (t 12)
  (.seq (.reg [⟨(some 4), none, .mv (k (.bool false))⟩])
  .ret)
  .skip))
  (.seq (.seq (.reg [⟨(some 5), none, .mv (k (.int .i64 0))⟩])
  (.block 0
  (.loop
  (.seq (.seq (.reg [⟨(some 13), none, .mv (t 5)⟩, ⟨(some 14), none, .faddr 2 (t 3)⟩, ⟨(some 15), none, .load false 1 (t 14)⟩, ⟨(some 16), none, .len (t 15)⟩, ⟨(some 17), none, .bin .lss (t 13) (t 16)⟩])
  (.cond (t 17)
  .skip
  (.exit 0)))
  (.seq (.block 1
  (.seq (.reg [⟨(some 20), none, .faddr 2 (t 3)⟩, ⟨(some 21), none, .load false 1 (t 20)⟩, ⟨(some 22), none, .mv (t 5)⟩, ⟨(some 23), none, .iaddr 6 (t 21) (t 22)⟩, ⟨(some 24), none, .load true 6 (t 23)⟩, ⟨(some 6), none, .alloc [(.str []), (.str []), (.int .i64 0), (.int .i64 0), (.str []), .nils]⟩, ⟨none, none, .store 6 (t 6) (t 24)⟩])
  (.seq (.reg [⟨(some 26), none, .mv (t 0)⟩, ⟨(some 27), none, .faddr 0 (t 6)⟩, ⟨(some 28), none, .load false 1 (t 27)⟩, ⟨(some 29), none, .faddr 1 (t 6)⟩, ⟨(some 30), none, .load false 1 (t 29)⟩, ⟨(some 31), none, .build [(.str []), (.int .i64 0), (.int .i64 0), (.str []), .nils, (.str []), (.str []), .nils] [(0, 1, (k (.str [97, 116, 116, 114]))), (5, 1, (t 28)), (6, 1, (t 30))]⟩, ⟨(some 32), none, .pcall (k (.fn 15 [] [])) [(t 26), (t 31)]⟩, ⟨(some 25), none, .mv (t 32)⟩, ⟨(some 33), none, .ext 0 (t 25)⟩, ⟨(some 34), none, .ext 1 (t 25)⟩, ⟨(some 7), none, .mv (t 33)⟩, ⟨(some 8), none, .mv (t 34)⟩])
  (.seq (.seq (.reg [⟨(some 35), none, .mv (t 8)⟩, ⟨(some 36), none, .bin .neq (t 35) (k (.int .i64 0))⟩])
  (.cond (t 36)
  (.seq (.reg [⟨(some 4), none, .mv (k (.bool false))⟩])
  .ret)
  .skip))
  (.seq (.reg [⟨(some 37), none, .faddr 2 (t 6)⟩, ⟨(some 38), none, .faddr 0 (t 37)⟩, ⟨(some 39), none, .load false 1 (t 38)⟩, ⟨(some 9), none, .mv (t 39)⟩])
  (.seq (.seq (.reg [⟨(some 40), none, .mv (t 9)⟩, ⟨(some 41), none, .bin .eql (t 40) (k (.int .i64 5))⟩, ⟨(some 42), none, .mv (t 41)⟩, ⟨(some 43), (some (42, true)), .faddr 2 (t 6)⟩, ⟨(some 44), (some (42, true)), .faddr 3 (t 43)⟩, ⟨(some 45), (some (42, true)), .load false 1 (t 44)⟩, ⟨(some 46), (some (42, true)), .len (t 45)⟩, ⟨(some 47), (some (42, true)), .bin .gtr (t 46) (k (.int .i64 0))⟩, ⟨(some 48), none, .pick (t 42) (t 47) (k (.bool false))⟩])
  (.cond (t 48)
  (.reg [⟨(some 49), none, .faddr 2 (t 6)⟩, ⟨(some 50), none, .faddr 3 (t 49)⟩, ⟨(some 51), none, .load false 1 (t 50)⟩, ⟨(some 52), none, .iaddr 4 (t 51) (k (.int .i64 0))⟩, ⟨(some 53), none, .faddr 0 (t 52)⟩, ⟨(some 54), none, .load false 1 (t 53)⟩, ⟨(some 55), none, .bin .add (k (.int .i64 10)) (t 54)⟩, ⟨(some 9), none, .mv (t 55)⟩])
  .skip))
  (.seq (.reg [⟨(some 56), none, .mv (t 9)⟩, ⟨(some 57), none, .mv (t 7)⟩, ⟨(some 58), none, .bin .neq (t 56) (t 57)⟩, ⟨(some 59), none, .mv (t 58)⟩, ⟨(some 60), (some (59, true)), .mv (t 9)⟩, ⟨(some 61), (some (59, true)), .bin .eql (t 60) (k (.int .i64 5))⟩, ⟨(some 62), (some (59, true)), .mv (t 61)⟩, ⟨(some 63), (some (62, true)), .mv (t 7)⟩, ⟨(some 64), (some (62, true)), .bin .gtr (t 63) (k (.int .i64 10))⟩, ⟨(some 65), (some (59, true)), .pick (t 62) (t 64) (k (.bool false))⟩, ⟨(some 66), (some (59, true)), .un .not (t 65)⟩, ⟨(some 67), none, .pick (t 59) (t 66) (k (.bool false))⟩])
  (.cond (t 67)
  (.seq (.reg [⟨(some 4), none, .mv (k (.bool false))⟩])
  .ret)
  .skip))))))))
  (.reg [⟨(some 18), none, .mv (t 5)⟩, ⟨(some 19), none, .bin .add (t 18) (k (.int .i64 1))⟩, ⟨(some 5), none, .mv (t 19)⟩]))))))
  (.seq (.reg [⟨(some 4), none, .mv (k (.bool true))⟩])
  .ret))))
theorem fn16 : Fn Go.Proofs.Try.prog 16 68 [.inl 4] c16 :=
  ⟨⟨_, _, Go.Proofs.Try.func16, rfl, by kernel_rfl, Go.Proofs.Try.ntmps16, by kernel_rfl, ⟨fun f => imp.contains f, false⟩, by kernel_rfl⟩⟩

def c23 : C :=
  (.seq (.reg [⟨(some 1), none, .box (t 0)⟩, ⟨(some 2), none, .mv (k (.bool false))⟩])
  (.seq (.seq (.reg [⟨(some 5), none, .faddr 2 (t 1)⟩, ⟨(some 6), none, .load false 1 (t 5)⟩, ⟨(some 7), none, .len (t 6)⟩, ⟨(some 8), none, .mv (k (.int .i64 0))⟩])
  (.block 0
  (.loop
  (.seq (.reg [⟨(some 9), none, .bin .lss (t 8) (t 7)⟩])
  (.seq (.cond (t 9)
  .skip
  (.exit 0))
  (.seq (.block 1
  (.seq (.reg [⟨(some 10), none, .iaddr 6 (t 6) (t 8)⟩, ⟨(some 11), none, .load true 6 (t 10)⟩, ⟨(some 4), none, .alloc [(.str []), (.str []), (.int .i64 0), (.int .i64 0), (.str []), .nils]⟩, ⟨none, none, .store 6 (t 4) (t 11)⟩])
  (.seq (.reg [⟨(some 12), none, .faddr 2 (t 4)⟩, ⟨(some 13), none, .load true 4 (t 12)⟩, ⟨(some 14), none, .pcall (k (.fn 40 [] [])) [(t 13)]⟩, ⟨(some 15), none, .un .not (t 14)⟩, ⟨(some 16), none, .mv (t 15)⟩, ⟨(some 17), (some (16, false)), .faddr 2 (t 4)⟩, ⟨(some 18), (some (16, false)), .faddr 0 (t 17)⟩, ⟨(some 19), (some (16, false)), .load false 1 (t 18)⟩, ⟨(some 20), (some (16, false)), .bin .eql (t 19) (k (.int .i64 0))⟩, ⟨(some 21), none, .pick (t 16) (k (.bool true)) (t 20)⟩])
  (.cond (t 21)
  (.seq (.reg [⟨(some 2), none, .mv (k (.bool false))⟩])
  .ret)
  .skip))))
  (.reg [⟨(some 22), none, .bin .add (t 8) (k (.int .i64 1))⟩, ⟨(some 8), none, .mv (t 22)⟩])))))))
  (.seq (.reg [⟨(some 23), none, .faddr 0 (t 1)⟩, ⟨(some 24), none, .load false 1 (t 23)⟩, ⟨(some 25), none, .bin .geq (t 24) (k (.int .i64 0))⟩, ⟨(some 26), none, .mv (t 25)⟩, ⟨(some 27), (some (26, true)), .faddr 0 (t 1)⟩, ⟨(some 28), (some (26, true)), .load false 1 (t 27)⟩, ⟨(some 29), (some (26, true)), .bin .leq (t 28) (k (.int .i64 1099511627776))⟩, ⟨(some 30), none, .pick (t 26) (t 29) (k (.bool false))⟩, ⟨(some 2), none, .mv (t 30)⟩])
  .ret)))
theorem fn23 : Fn Go.Proofs.Try.prog 23 31 [.inl 2] c23 :=
  ⟨⟨_, _, Go.Proofs.Try.func23, rfl, by kernel_rfl, Go.Proofs.Try.ntmps23, by kernel_rfl, ⟨fun f => imp.contains f, false⟩, by kernel_rfl⟩⟩

def c26 : C :=
  (.seq (.reg [⟨(some 2), none, .box (t 0)⟩, ⟨(some 3), none, .box (t 1)⟩, ⟨(some 4), none, .alloc [(.int .i64 0), (.int .i64 0), (.str []), .nils]⟩, ⟨(some 5), none, .mv (k (.int .i64 0))⟩])
  (.seq (.reg [⟨(some 14), none, .build [(.int .i64 0), (.int .i64 0), (.str []), .nils] []⟩, ⟨(some 6), none, .alloc [(.int .i64 0), (.int .i64 0), (.str []), .nils]⟩, ⟨none, none, .store 4 (t 6) (t 14)⟩])
  (.seq (.reg [⟨(some 7), none, .alloc [(.int .i64 0), (.int .i64 0), (.str []), .nils, (.int .i64 0), (.int .i64 0), (.str []), .nils]⟩])
  (.seq (.reg [⟨(some 8), none, .alloc [(.int .i64 0), (.int .i64 0)]⟩])
  (.seq (.seq (.reg [⟨(some 9), none, .mv (k (.int .i64 0))⟩])
  (.block 0
  (.loop
  (.seq (.seq (.reg [⟨(some 15), none, .mv (t 9)⟩, ⟨(some 16), none, .faddr 7 (t 2)⟩, ⟨(some 17), none, .load false 1 (t 16)⟩, ⟨(some 18), none, .len (t 17)⟩, ⟨(some 19), none, .bin .lss (t 15) (t 18)⟩])
  (.cond (t 19)
  .skip
  (.exit 0)))
  (.seq (.block 1
  (.seq (.draw 1 [(⟨(some 23), none, .faddr 7 (t 2)⟩, []), (⟨(some 24), none, .load false 1 (t 23)⟩, []), (⟨(some 25), none, .mv (t 9)⟩, []), (⟨(some 26), none, .iaddr 8 (t 24) (t 25)⟩, []), (⟨(some 27), none, .load true 8 (t 26)⟩, []), (⟨(some 28), none, .load true 3 (t 3)⟩, []), (⟨(some 29), none, .pcall (k (.fn 41 [] [])) [(t 27), (t 28)]⟩, []), (⟨(some 22), none, .mv (t 29)⟩, []), (⟨(some 30), none, .ext 0 (t 22)⟩, []), (⟨(some 31), none, .ext 1 (t 22)⟩, []), (⟨(some 10), none, .rawAt 1 [(.int .i64 0), (.int .i64 0), (.str []), .nils]⟩, []), (⟨none, none, .fillAt 1 4 (t 10) (t 30)⟩, []), (⟨(some 11), none, .mv (t 31)⟩, [])])
  (.seq (.reg [⟨(some 32), none, .mv (t 9)⟩, ⟨(some 33), none, .load true 4 (t 10)⟩, ⟨(some 34), none, .iarr 4 2 (t 7) (t 32)⟩, ⟨none, none, .store 4 (t 34) (t 33)⟩])
  (.reg [⟨(some 35), none, .mv (t 9)⟩, ⟨(some 36), none, .mv (t 11)⟩, ⟨(some 37), none, .iarr 1 2 (t 8) (t 35)⟩, ⟨none, none, .store 1 (t 37) (t 36)⟩]))))
  (.reg [⟨(some 20), none, .mv (t 9)⟩, ⟨(some 21), none, .bin .add (t 20) (k (.int .i64 1))⟩, ⟨(some 9), none, .mv (t 21)⟩]))))))
  (.seq (.seq (.reg [⟨(some 38), none, .faddr 0 (t 2)⟩, ⟨(some 39), none, .load false 1 (t 38)⟩, ⟨(some 40), none, .bin .eql (t 39) (k (.str [97, 110, 100]))⟩, ⟨(some 41), none, .mv (t 40)⟩, ⟨(some 42), (some (41, false)), .faddr 0 (t 2)⟩, ⟨(some 43), (some (41, false)), .load false 1 (t 42)⟩, ⟨(some 44), (some (41, false)), .bin .eql (t 43) (k (.str [111, 114]))⟩, ⟨(some 45), none, .pick (t 41) (k (.bool true)) (t 44)⟩])
  (.cond (t 45)
  (.seq (.reg [⟨(some 46), none, .faddr 0 (t 2)⟩, ⟨(some 47), none, .load false 1 (t 46)⟩, ⟨(some 48), none, .bin .eql (t 47) (k (.str [111, 114]))⟩, ⟨(some 49), none, .load true 8 (t 7)⟩, ⟨(some 50), none, .load true 2 (t 8)⟩, ⟨(some 51), none, .pcall (k (.fn 42 [] [])) [(t 48), (t 49), (t 50)]⟩, ⟨(some 52), none, .ext 0 (t 51)⟩, ⟨(some 53), none, .ext 1 (t 51)⟩, ⟨none, none, .store 4 (t 4) (t 52)⟩, ⟨(some 5), none, .mv (t 53)⟩])
  .ret)
  .skip))
  (.seq (.seq (.reg [⟨(some 54), none, .iarr 1 2 (t 8) (k (.int .i64 0))⟩, ⟨(some 55), none, .load false 1 (t 54)⟩, ⟨(some 56), none, .bin .neq (t 55) (k (.int .i64 0))⟩])
  (.cond (t 56)
  (.seq (.draw 0 [(⟨(some 57), none, .load true 4 (t 6)⟩, []), (⟨(some 58), none, .iarr 1 2 (t 8) (k (.int .i64 0))⟩, []), (⟨(some 59), none, .load false 1 (t 58)⟩, []), (⟨none, none, .store 4 (t 4) (t 57)⟩, [⟨(some 59), none, .load false 1 (t 58)⟩]), (⟨(some 5), none, .mv (t 59)⟩, [])])
  .ret)
  .skip))
  (.seq (.seq (.reg [⟨(some 60), none, .iarr 1 2 (t 8) (k (.int .i64 1))⟩, ⟨(some 61), none, .load false 1 (t 60)⟩, ⟨(some 62), none, .bin .neq (t 61) (k (.int .i64 0))⟩])
  (.cond (t 62)
  (.seq (.draw 0 [(⟨(some 63), none, .load true 4 (t 6)⟩, []), (⟨(some 64), none, .iarr 1 2 (t 8) (k (.int .i64 1))⟩, []), (⟨(some 65), none, .load false 1 (t 64)⟩, []), (⟨none, none, .store 4 (t 4) (t 63)⟩, [⟨(some 65), none, .load false 1 (t 64)⟩]), (⟨(some 5), none, .mv (t 65)⟩, [])])
  .ret)
  .skip))
  (.seq (.seq (.reg [⟨(some 66), none, .faddr 0 (t 2)⟩, ⟨(some 67), none, .load false 1 (t 66)⟩])
  (.block 2
  (.seq (.reg [⟨(some 69), none, .bin .eql (t 67) (k (.str [118, 97, 108, 117, 101]))⟩, ⟨(some 68), none, .mv (t 69)⟩])
  (.cond (t 68)
  (.seq (.reg [⟨(some 70), none, .faddr 1 (t 2)⟩, ⟨(some 71), none, .load true 4 (t 70)⟩, ⟨none, none, .store 4 (t 4) (t 71)⟩, ⟨(some 5), none, .mv (k (.int .i64 0))⟩])
  .ret)
  (.seq (.reg [⟨(some 73), none, .bin .eql (t 67) (k (.str [110, 111, 119]))⟩, ⟨(some 72), none, .mv (t 73)⟩])
  (.cond (t 72)
  (.seq (.reg [⟨(some 74), none, .faddr 0 (t 3)⟩, ⟨(some 75), none, .load false 1 (t 74)⟩, ⟨(some 76), none, .build [(.int .i64 0), (.int .i64 0), (.str []), .nils] [(0, 1, (k (.int .i64 4))), (1, 1, (t 75))]⟩, ⟨none, none, .store 4 (t 4) (t 76)⟩, ⟨(some 5), none, .mv (k (.int .i64 0))⟩])
  .ret)
  (.seq (.reg [⟨(some 78), none, .bin .eql (t 67) (k (.str [114, 111, 108, 101]))⟩, ⟨(some 77), none, .mv (t 78)⟩])
  (.cond (t 77)
  (.seq (.seq (.reg [⟨(some 12), none, .mv (k (.int .i64 0))⟩])
  (.block 3
  (.loop
  (.seq (.seq (.reg [⟨(some 79), none, .mv (t 12)⟩, ⟨(some 80), none, .faddr 1 (t 3)⟩, ⟨(some 81), none, .load false 1 (t 80)⟩, ⟨(some 82), none, .len (t 81)⟩, ⟨(some 83), none, .bin .lss (t 79) (t 82)⟩])
  (.cond (t 83)
  .skip
  (.exit 3)))
  (.seq (.block 4
  (.seq (.draw 0 [(⟨(some 86), none, .faddr 1 (t 3)⟩, []), (⟨(some 87), none, .load false 1 (t 86)⟩, []), (⟨(some 88), none, .mv (t 12)⟩, []), (⟨(some 89), none, .iaddr 1 (t 87) (t 88)⟩, []), (⟨(some 90), none, .load false 1 (t 89)⟩, []), (⟨(some 91), none, .faddr 6 (t 2)⟩, []), (⟨(some 92), none, .load false 1 (t 91)⟩, []), (⟨(some 93), none, .bin .eql (t 90) (t 92)⟩, [])])
  (.cond (t 93)
  (.seq (.reg [⟨(some 94), none, .pcall (k (.fn 43 [] [])) [(k (.bool true))]⟩, ⟨none, none, .store 4 (t 4) (t 94)⟩, ⟨(some 5), none, .mv (k (.int .i64 0))⟩])
  .ret)
  .skip)))
  (.reg [⟨(some 84), none, .mv (t 12)⟩, ⟨(some 85), none, .bin .add (t 84) (k (.int .i64 1))⟩, ⟨(some 12), none, .mv (t 85)⟩]))))))
  (.seq (.reg [⟨(some 95), none, .pcall (k (.fn 43 [] [])) [(k (.bool false))]⟩, ⟨none, none, .store 4 (t 4) (t 95)⟩, ⟨(some 5), none, .mv (k (.int .i64 0))⟩])
  .ret))
  (.seq (.seq (.reg [⟨(some 97), none, .bin .eql (t 67) (k (.str [97, 116, 116, 114]))⟩, ⟨(some 96), none, .mv (t 97)⟩])
  (.cond (t 96)
  .skip
  (.reg [⟨(some 98), none, .bin .eql (t 67) (k (.str [104, 97, 115]))⟩, ⟨(some 96), none, .mv (t 98)⟩])))
  (.cond (t 96)
  (.seq (.seq (.reg [⟨(some 13), none, .mv (k (.int .i64 0))⟩])
  (.block 5
  (.loop
  (.seq (.seq (.reg [⟨(some 99), none, .mv (t 13)⟩, ⟨(some 100), none, .faddr 2 (t 3)⟩, ⟨(some 101), none, .load false 1 (t 100)⟩, ⟨(some 102), none, .len (t 101)⟩, ⟨(some 103), none, .bin .lss (t 99) (t 102)⟩])
  (.cond (t 103)
  .skip
  (.exit 5)))
  (.seq (.block 6
  (.seq (.draw 0 [(⟨(some 106), none, .faddr 2 (t 3)⟩, []), (⟨(some 107), none, .load false 1 (t 106)⟩, []), (⟨(some 108), none, .mv (t 13)⟩, []), (⟨(some 109), none, .iaddr 6 (t 107) (t 108)⟩, []), (⟨(some 110), none, .faddr 0 (t 109)⟩, []), (⟨(some 111), none, .load false 1 (t 110)⟩, []), (⟨(some 112), none, .faddr 5 (t 2)⟩, []), (⟨(some 113), none, .load false 1 (t 112)⟩, []), (⟨(some 114), none, .bin .eql (t 111) (t 113)⟩, []), (⟨(some 115), none, .mv (t 114)⟩, []), (⟨(some 116), (some (115, true)), .faddr 2 (t 3)⟩, []), (⟨(some 117), (some (115, true)), .load false 1 (t 116)⟩, []), (⟨(some 118), (some (115, true)), .mv (t 13)⟩, []), (⟨(some 119), (some (115, true)), .iaddr 6 (t 117) (t 118)⟩, []), (⟨(some 120), (some (115, true)), .faddr 1 (t 119)⟩, []), (⟨(some 121), (some (115, true)), .load false 1 (t 120)⟩, []), (⟨(some 122), (some (115, true)), .faddr 6 (t 2)⟩, []), (⟨(some 123), (some (115, true)), .load false 1 (t 122)⟩, []), (⟨(some 124), (some (115, true)), .bin .eql (t 121) (t 123)⟩, []), (⟨(some 125), none, .pick (t 115) (t 124) (k (.bool false))⟩, [])])
  (.cond (t 125)
  (.seq (.seq (.reg [⟨(some 126), none, .faddr 0 (t 2)⟩, ⟨(some 127), none, .load false 1 (t 126)⟩, ⟨(some 128), none, .bin .eql (t 127) (k (.str [104, 97, 115]))⟩])
  (.cond (t 128)
  (.seq (.reg [⟨(some 129), none, .pcall (k (.fn 43 [] [])) [(k (.bool true))]⟩, ⟨none, none, .store 4 (t 4) (t 129)⟩, ⟨(some 5), none, .mv (k (.int .i64 0))⟩])
  .ret)
  .skip))
  (.seq (.reg [⟨(some 130), none, .faddr 2 (t 3)⟩, ⟨(some 131), none, .load false 1 (t 130)⟩, ⟨(some 132), none, .mv (t 13)⟩, ⟨(some 133), none, .iaddr 6 (t 131) (t 132)⟩, ⟨(some 134), none, .faddr 2 (t 133)⟩, ⟨(some 135), none, .load true 4 (t 134)⟩, ⟨none, none, .store 4 (t 4) (t 135)⟩, ⟨(some 5), none, .mv (k (.int .i64 0))⟩])
  .ret))
  .skip)))
  (.reg [⟨(some 104), none, .mv (t 13)⟩, ⟨(some 105), none, .bin .add (t 104) (k (.int .i64 1))⟩, ⟨(some 13), none, .mv (t 105)⟩]))))))
  (.seq (.seq (.reg [⟨(some 136), none, .faddr 0 (t 2)⟩, ⟨(some 137), none, .load false 1 (t 136)⟩, ⟨(some 138), none, .bin .eql (t 137) (k (.str [104, 97, 115]))⟩])
  (.cond (t 138)
  (.seq (.reg [⟨(some 139), none, .pcall (k (.fn 43 [] [])) [(k (.bool false))]⟩, ⟨none, none, .store 4 (t 4) (t 139)⟩, ⟨(some 5), none, .mv (k (.int .i64 0))⟩])
  .ret)
  .skip))
  (.seq (.reg [⟨(some 140), none, .load true 4 (t 6)⟩, ⟨none, none, .store 4 (t 4) (t 140)⟩, ⟨(some 5), none, .mv (k (.int .i64 8))⟩])
  .ret)))
  (.seq (.reg [⟨(some 142), none, .bin .eql (t 67) (k (.str [110, 111, 116]))⟩, ⟨(some 141), none, .mv (t 142)⟩])
  (.cond (t 141)
  (.seq (.seq (.reg [⟨(some 143), none, .iarr 4 2 (t 7) (k (.int .i64 0))⟩, ⟨(some 144), none, .faddr 0 (t 143)⟩, ⟨(some 145), none, .load false 1 (t 144)⟩, ⟨(some 146), none, .bin .eql (t 145) (k (.int .i64 1))⟩])
  (.cond (t 146)
  (.seq (.reg [⟨(some 147), none, .iarr 4 2 (t 7) (k (.int .i64 0))⟩, ⟨(some 148), none, .faddr 1 (t 147)⟩, ⟨(some 149), none, .load false 1 (t 148)⟩, ⟨(some 150), none, .bin .eql (t 149) (k (.int .i64 0))⟩, ⟨(some 151), none, .pcall (k (.fn 43 [] [])) [(t 150)]⟩, ⟨none, none, .store 4 (t 4) (t 151)⟩, ⟨(some 5), none, .mv (k (.int .i64 0))⟩])
  .ret)
  .skip))
  (.seq (.reg [⟨(some 152), none, .load true 4 (t 6)⟩, ⟨none, none, .store 4 (t 4) (t 152)⟩, ⟨(some 5), none, .mv (k (.int .i64 6))⟩])
  .ret))
  (.seq (.reg [⟨(some 154), none, .bin .eql (t 67) (k (.str [110, 101, 103]))⟩, ⟨(some 153), none, .mv (t 154)⟩])
  (.cond (t 153)
  (.seq (.seq (.reg [⟨(some 155), none, .iarr 4 2 (t 7) (k (.int .i64 0))⟩, ⟨(some 156), none, .faddr 0 (t 155)⟩, ⟨(some 157), none, .load false 1 (t 156)⟩, ⟨(some 158), none, .bin .eql (t 157) (k (.int .i64 2))⟩])
  (.cond (t 158)
  (.seq (.reg [⟨(some 159), none, .build [(.int .i64 0), (.int .i64 0), (.str []), .nils] [(0, 1, (k (.int .i64 2)))]⟩, ⟨(some 160), none, .iarr 4 2 (t 7) (k (.int .i64 0))⟩, ⟨(some 161), none, .load true 4 (t 160)⟩, ⟨(some 162), none, .pcall (k (.fn 44 [] [])) [(t 159), (t 161), (k (.bool true))]⟩, ⟨(some 163), none, .ext 0 (t 162)⟩, ⟨(some 164), none, .ext 1 (t 162)⟩, ⟨none, none, .store 4 (t 4) (t 163)⟩, ⟨(some 5), none, .mv (t 164)⟩])
  .ret)
  .skip))
  (.seq (.reg [⟨(some 165), none, .load true 4 (t 6)⟩, ⟨none, none, .store 4 (t 4) (t 165)⟩, ⟨(some 5), none, .mv (k (.int .i64 6))⟩])
  .ret))
  (.seq (.reg [⟨(some 167), none, .bin .eql (t 67) (k (.str [115, 105, 122, 101]))⟩, ⟨(some 166), none, .mv (t 167)⟩])
  (.cond (t 166)
  (.seq (.seq (.reg [⟨(some 168), none, .iarr 4 2 (t 7) (k (.int .i64 0))⟩, ⟨(some 169), none, .faddr 0 (t 168)⟩, ⟨(some 170), none, .load false 1 (t 169)⟩, ⟨(some 171), none, .bin .eql (t 170) (k (.int .i64 5))⟩])
  (.cond (t 171)
  (.seq (.reg [⟨(some 172), none, .iarr 4 2 (t 7) (k (.int .i64 0))⟩, ⟨(some 173), none, .faddr 3 (t 172)⟩, ⟨(some 174), none, .load false 1 (t 173)⟩, ⟨(some 175), none, .len (t 174)⟩, ⟨(some 176), none, .build [(.int .i64 0), (.int .i64 0), (.str []), .nils] [(0, 1, (k (.int .i64 2))), (1, 1, (t 175))]⟩, ⟨none, none, .store 4 (t 4) (t 176)⟩, ⟨(some 5), none, .mv (k (.int .i64 0))⟩])
  .ret)
  .skip))
  (.seq (.reg [⟨(some 177), none, .load true 4 (t 6)⟩, ⟨none, none, .store 4 (t 4) (t 177)⟩, ⟨(some 5), none, .mv (k (.int .i64 6))⟩])
  .ret))
  .skip))))))))))))))))
  (.seq (.reg [⟨(some 178), none, .faddr 0 (t 2)⟩, ⟨(some 179), none, .load false 1 (t 178)⟩, ⟨(some 180), none, .iarr 4 2 (t 7) (k (.int .i64 0))⟩, ⟨(some 181), none, .load true 4 (t 180)⟩, ⟨(some 182), none, .iarr 4 2 (t 7) (k (.int .i64 1))⟩, ⟨(some 183), none, .load true 4 (t 182)⟩, ⟨(some 184), none, .pcall (k (.fn 45 [] [])) [(t 179), (t 181), (t 183)]⟩, ⟨(some 185), none, .ext 0 (t 184)⟩, ⟨(some 186), none, .ext 1 (t 184)⟩, ⟨none, none, .store 4 (t 4) (t 185)⟩, ⟨(some 5), none, .mv (t 186)⟩])
  .ret))))))))))
theorem fn26 : Fn Go.Proofs.Try.prog 26 187 [.inr (4, true, 4), .inl 5] c26 :=
  ⟨⟨_, _, Go.Proofs.Try.func26, rfl, by kernel_rfl, Go.Proofs.Try.ntmps26, by kernel_rfl, ⟨fun f => imp.contains f, false⟩, by kernel_rfl⟩⟩

def c28 : C :=
  (.seq (.reg [⟨(some 3), none, .box (t 1)⟩, ⟨(some 4), none, .alloc [(.str []), (.int .i64 0), (.int .i64 0), (.str []), .nils, (.str []), (.str []), .nils]⟩])
  (.seq (.reg [⟨(some 5), none, .mv (t 0)⟩, ⟨(some 6), none, .load true 8 (t 3)⟩, ⟨(some 7), none, .bsl 8 [(t 6)]⟩, ⟨(some 8), none, .build [(.str []), (.int .i64 0), (.int .i64 0), (.str []), .nils, (.str []), (.str []), .nils] [(0, 1, (t 5)), (7, 1, (t 7))]⟩, ⟨none, none, .store 8 (t 4) (t 8)⟩])
  .ret))
theorem fn28 : Fn Go.Proofs.Try.prog 28 9 [.inr (4, true, 8)] c28 :=
  ⟨⟨_, _, Go.Proofs.Try.func28, rfl, by kernel_rfl, Go.Proofs.Try.ntmps28, by kernel_rfl, ⟨fun f => imp.contains f, false⟩, by kernel_rfl⟩⟩

def c31 : C :=
  (.seq (.reg [⟨(some 1), none, .box (t 0)⟩, ⟨(some 2), none, .mv (k (.bool false))⟩])
  (.seq (.seq (.reg [⟨(some 4), none, .faddr 0 (t 1)⟩, ⟨(some 5), none, .load false 1 (t 4)⟩, ⟨(some 6), none, .lens (t 5)⟩, ⟨(some 7), none, .bin .gtr (t 6) (k (.int .i64 200))⟩, ⟨(some 8), none, .mv (t 7)⟩, ⟨(some 9), (some (8, false)), .faddr 5 (t 1)⟩, ⟨(some 10), (some (8, false)), .load false 1 (t 9)⟩, ⟨(some 11), (some (8, false)), .lens (t 10)⟩, ⟨(some 12), (some (8, false)), .bin .gtr (t 11) (k (.int .i64 200))⟩, ⟨(some 13), none, .pick (t 8) (k (.bool true)) (t 12)⟩, ⟨(some 14), none, .mv (t 13)⟩, ⟨(some 15), (some (14, false)), .faddr 6 (t 1)⟩, ⟨(some 16), (some (14, false)), .load false 1 (t 15)⟩, ⟨(some 17), (some (14, false)), .lens (t 16)⟩, ⟨(some 18), (some (14, false)), .bin .gtr (t 17) (k (.int .i64 200))⟩, ⟨(some 19), none, .pick (t 14) (k (.bool true)) (t 18)⟩, ⟨(some 20), none, .mv (t 19)⟩, ⟨(some 21), (some (20, false)), .faddr 1 (t 1)⟩, ⟨(some 22), (some (20, false)), .load true 4 (t 21)⟩, ⟨(some 23), (some (20, false)), .bsl 4 [(t 22)]⟩, ⟨(some 24), (some (20, false)), .pcall (k (.fn 19 [] [])) [(t 23), (k (.int .i64 1))]⟩, ⟨(some 25), (some (20, false)), .un .not (t 24)⟩, ⟨(some 26), none, .pick (t 20) (k (.bool true)) (t 25)⟩])
  (.cond (t 26)
  (.seq (.reg [⟨(some 2), none, .mv (k (.bool false))⟩])
  .ret)
  .skip))
  (.seq (.seq (.reg [⟨(some 3), none, .mv (k (.int .i64 0))⟩])
  (.block 0
  (.loop
  (.seq (.seq (.reg [⟨(some 27), none, .mv (t 3)⟩, ⟨(some 28), none, .faddr 7 (t 1)⟩, ⟨(some 29), none, .load false 1 (t 28)⟩, ⟨(some 30), none, .len (t 29)⟩, ⟨(some 31), none, .bin .lss (t 27) (t 30)⟩])
  (.cond (t 31)
  .skip
  (.exit 0)))
  (.seq (.block 1
  (.seq (.reg [⟨(some 34), none, .faddr 7 (t 1)⟩, ⟨(some 35), none, .load false 1 (t 34)⟩, ⟨(some 36), none, .mv (t 3)⟩, ⟨(some 37), none, .iaddr 8 (t 35) (t 36)⟩, ⟨(some 38), none, .load true 8 (t 37)⟩, ⟨(some 39), none, .pcall (k (.fn 31 [] [])) [(t 38)]⟩, ⟨(some 40), none, .un .not (t 39)⟩])
  (.cond (t 40)
  (.seq (.reg [⟨(some 2), none, .mv (k (.bool false))⟩])
  .ret)
  .skip)))
  (.reg [⟨(some 32), none, .mv (t 3)⟩, ⟨(some 33), none, .bin .add (t 32) (k (.int .i64 1))⟩, ⟨(some 3), none, .mv (t 33)⟩]))))))
  (.seq (.reg [⟨(some 2), none, .mv (k (.bool true))⟩])
  .ret))))
theorem fn31 : Fn Go.Proofs.Try.prog 31 41 [.inl 2] c31 :=
  ⟨⟨_, _, Go.Proofs.Try.func31, rfl, by kernel_rfl, Go.Proofs.Try.ntmps31, by kernel_rfl, ⟨fun f => imp.contains f, false⟩, by kernel_rfl⟩⟩

def c43 : C :=
  (.seq (.reg [⟨(some 2), none, .alloc [(.int .i64 0), (.int .i64 0), (.str []), .nils]⟩])
  (.seq (.seq (.reg [⟨(some 3), none, .mv (t 0)⟩])
  (.cond (t 3)
  (.seq (.reg [⟨(some 4), none, .build [(.int .i64 0), (.int .i64 0), (.str []), .nils] [(0, 1, (k (.int .i64 1))), (1, 1, (k (.int .i64 1)))]⟩, ⟨none, none, .store 4 (t 2) (t 4)⟩])
  .ret)
  .skip))
  (.seq (.reg [⟨(some 5), none, .build [(.int .i64 0), (.int .i64 0), (.str []), .nils] [(0, 1, (k (.int .i64 1)))]⟩, ⟨none, none, .store 4 (t 2) (t 5)⟩])
  .ret)))
theorem fn43 : Fn Go.Proofs.Try.prog 43 6 [.inr (2, true, 4)] c43 :=
  ⟨⟨_, _, Go.Proofs.Try.func43, rfl, by kernel_rfl, Go.Proofs.Try.ntmps43, by kernel_rfl, ⟨fun f => imp.contains f, false⟩, by kernel_rfl⟩⟩

def c44 : C :=
  (.seq (.reg [⟨(some 3), none, .box (t 0)⟩, ⟨(some 4), none, .box (t 1)⟩, ⟨(some 6), none, .alloc [(.int .i64 0), (.int .i64 0), (.str []), .nils]⟩, ⟨(some 7), none, .mv (k (.int .i64 0))⟩])
  (.seq (.reg [⟨(some 12), none, .faddr 1 (t 4)⟩, ⟨(some 13), none, .load false 1 (t 12)⟩, ⟨(some 14), none, .pcall (k (.fn 60 [] [])) [(t 13)]⟩, ⟨(some 8), none, .alloc [(.int .i64 0), (.int .u64 0)]⟩, ⟨none, none, .store 2 (t 8) (t 14)⟩])
  (.seq (.seq (.reg [⟨(some 15), none, .mv (t 2)⟩])
  (.cond (t 15)
  (.reg [⟨(some 16), none, .load true 2 (t 8)⟩, ⟨(some 17), none, .pcall (k (.fn 61 [] [])) [(t 16)]⟩, ⟨none, none, .store 2 (t 8) (t 17)⟩])
  .skip))
  (.seq (.draw 0 [(⟨(some 19), none, .faddr 1 (t 3)⟩, []), (⟨(some 20), none, .load false 1 (t 19)⟩, []), (⟨(some 21), none, .pcall (k (.fn 60 [] [])) [(t 20)]⟩, []), (⟨(some 22), none, .load true 2 (t 8)⟩, []), (⟨(some 23), none, .pcall (k (.fn 62 [] [])) [(t 21), (t 22)]⟩, []), (⟨(some 24), none, .pcall (k (.fn 63 [] [])) [(t 23)]⟩, []), (⟨(some 18), none, .mv (t 24)⟩, []), (⟨(some 25), none, .ext 0 (t 18)⟩, []), (⟨(some 26), none, .ext 1 (t 18)⟩, []), (⟨(some 9), none, .mv (t 25)⟩, []), (⟨(some 10), none, .mv (t 26)⟩, [])])
  (.seq (.reg [⟨(some 11), none, .mv (k (.int .i64 0))⟩])
  (.seq (.seq (.reg [⟨(some 27), none, .faddr 0 (t 3)⟩, ⟨(some 28), none, .load false 1 (t 27)⟩, ⟨(some 29), none, .bin .eql (t 28) (k (.int .i64 2))⟩, ⟨(some 30), none, .mv (t 29)⟩, ⟨(some 31), (some (30, true)), .faddr 0 (t 4)⟩, ⟨(some 32), (some (30, true)), .load false 1 (t 31)⟩, ⟨(some 33), (some (30, true)), .bin .eql (t 32) (k (.int .i64 2))⟩, ⟨(some 34), none, .pick (t 30) (t 33) (k (.bool false))⟩, ⟨(some 35), none, .mv (t 34)⟩, ⟨(some 36), (some (35, false)), .mv (t 2)⟩, ⟨(some 37), (some (35, false)), .mv (t 36)⟩, ⟨(some 38), (some (37, true)), .faddr 0 (t 3)⟩, ⟨(some 39), (some (37, true)), .load false 1 (t 38)⟩, ⟨(some 40), (some (37, true)), .bin .eql (t 39) (k (.int .i64 4))⟩, ⟨(some 41), (some (35, false)), .pick (t 37) (t 40) (k (.bool false))⟩, ⟨(some 42), (some (35, false)), .mv (t 41)⟩, ⟨(some 43), (some (42, true)), .faddr 0 (t 4)⟩, ⟨(some 44), (some (42, true)), .load false 1 (t 43)⟩, ⟨(some 45), (some (42, true)), .bin .eql (t 44) (k (.int .i64 4))⟩, ⟨(some 46), (some (35, false)), .pick (t 42) (t 45) (k (.bool false))⟩, ⟨(some 47), none, .pick (t 35) (k (.bool true)) (t 46)⟩])
  (.cond (t 47)
  (.reg [⟨(some 11), none, .mv (k (.int .i64 2))⟩])
  .skip))
  (.seq (.seq (.reg [⟨(some 48), none, .faddr 0 (t 3)⟩, ⟨(some 49), none, .load false 1 (t 48)⟩, ⟨(some 50), none, .bin .eql (t 49) (k (.int .i64 4))⟩, ⟨(some 51), none, .mv (t 50)⟩, ⟨(some 52), (some (51, true)), .faddr 0 (t 4)⟩, ⟨(some 53), (some (51, true)), .load false 1 (t 52)⟩, ⟨(some 54), (some (51, true)), .bin .eql (t 53) (k (.int .i64 2))⟩, ⟨(some 55), none, .pick (t 51) (t 54) (k (.bool false))⟩])
  (.cond (t 55)
  (.reg [⟨(some 11), none, .mv (k (.int .i64 4))⟩])
  .skip))
  (.seq (.seq (.reg [⟨(some 56), none, .mv (t 11)⟩, ⟨(some 57), none, .bin .eql (t 56) (k (.int .i64 0))⟩])
  (.cond (t 57)
  (.seq (.reg [⟨(some 58), none, .build [(.int .i64 0), (.int .i64 0), (.str []), .nils] []⟩, ⟨none, none, .store 4 (t 6) (t 58)⟩, ⟨(some 7), none, .mv (k (.int .i64 6))⟩])
  .ret)
  .skip))
  (.seq (.seq (.reg [⟨(some 59), none, .mv (t 10)⟩, ⟨(some 60), none, .un .not (t 59)⟩, ⟨(some 61), none, .mv (t 60)⟩, ⟨(some 62), (some (61, false)), .mv (t 11)⟩, ⟨(some 63), (some (61, false)), .bin .eql (t 62) (k (.int .i64 4))⟩, ⟨(some 64), (some (61, false)), .mv (t 63)⟩, ⟨(some 65), (some (64, true)), .mv (t 9)⟩, ⟨(some 66), (some (64, true)), .bin .lss (t 65) (k (.int .i64 0))⟩, ⟨(some 67), (some (64, true)), .mv (t 66)⟩, ⟨(some 68), (some (67, false)), .mv (t 9)⟩, ⟨(some 69), (some (67, false)), .bin .gtr (t 68) (k (.int .i64 1099511627776))⟩, ⟨(some 70), (some (64, true)), .pick (t 67) (k (.bool true)) (t 69)⟩, ⟨(some 71), (some (61, false)), .pick (t 64) (t 70) (k (.bool false))⟩, ⟨(some 72), none, .pick (t 61) (k (.bool true)) (t 71)⟩])
  (.cond (t 72)
  (.seq (.reg [⟨(some 73), none, .build [(.int .i64 0), (.int .i64 0), (.str []), .nils] []⟩, ⟨none, none, .store 4 (t 6) (t 73)⟩, ⟨(some 7), none, .mv (k (.int .i64 7))⟩])
  .ret)
  .skip))
  (.seq (.reg [⟨(some 74), none, .mv (t 11)⟩, ⟨(some 75), none, .mv (t 9)⟩, ⟨(some 76), none, .build [(.int .i64 0), (.int .i64 0), (.str []), .nils] [(0, 1, (t 74)), (1, 1, (t 75))]⟩, ⟨none, none, .store 4 (t 6) (t 76)⟩, ⟨(some 7), none, .mv (k (.int .i64 0))⟩])
  .ret))))))))))
theorem fn44 : Fn Go.Proofs.Try.prog 44 77 [.inr (6, true, 4), .inl 7] c44 :=
  ⟨⟨_, _, Go.Proofs.Try.func44, rfl, by kernel_rfl, Go.Proofs.Try.ntmps44, by kernel_rfl, ⟨fun f => imp.contains f, false⟩, by kernel_rfl⟩⟩

def c59 : C :=
  (.seq (.reg [⟨(some 2), none, .box (t 0)⟩, ⟨(some 3), none, .box (t 1)⟩, ⟨(some 4), none, .mv (k (.int .i64 0))⟩])
  (.seq (.seq (.draw 0 [(⟨(some 6), none, .faddr 0 (t 2)⟩, []), (⟨(some 7), none, .load false 1 (t 6)⟩, []), (⟨(some 8), none, .faddr 0 (t 3)⟩, []), (⟨(some 9), none, .load false 1 (t 8)⟩, []), (⟨(some 10), none, .pcall (k (.fn 83 [] [])) [(t 7), (t 9)]⟩, []), (⟨(some 11), none, .faddr 1 (t 2)⟩, []), (⟨(some 12), none, .load false 1 (t 11)⟩, []), (⟨(some 13), none, .faddr 1 (t 3)⟩, []), (⟨(some 14), none, .load false 1 (t 13)⟩, []), (⟨(some 15), none, .pcall (k (.fn 84 [] [])) [(t 12), (t 14)]⟩, []), (⟨(some 16), none, .faddr 2 (t 2)⟩, []), (⟨(some 17), none, .load false 1 (t 16)⟩, []), (⟨(some 18), none, .faddr 2 (t 3)⟩, []), (⟨(some 19), none, .load false 1 (t 18)⟩, []), (⟨(some 20), none, .pcall (k (.fn 85 [] [])) [(t 17), (t 19)]⟩, []), (⟨(some 21), none, .bslq 1 [(t 10), (t 15), (t 20)]⟩, []), (⟨(some 22), none, .pcall (k (.fn 82 [] [])) [(t 21)]⟩, []), (⟨(some 5), none, .mv (t 22)⟩, [])])
  (.seq (.reg [⟨(some 23), none, .mv (t 5)⟩, ⟨(some 24), none, .bin .neq (t 23) (k (.int .i64 0))⟩])
  (.cond (t 24)
  (.seq (.reg [⟨(some 25), none, .mv (t 5)⟩, ⟨(some 4), none, .mv (t 25)⟩])
  .ret)
  .skip)))
  (.seq (.reg [⟨(some 26), none, .faddr 3 (t 2)⟩, ⟨(some 27), none, .load false 1 (t 26)⟩, ⟨(some 28), none, .faddr 3 (t 3)⟩, ⟨(some 29), none, .load false 1 (t 28)⟩, ⟨(some 30), none, .pcall (k (.fn 86 [] [])) [(t 27), (t 29), (k (.fn 59 [] []))]⟩, ⟨(some 4), none, .mv (t 30)⟩])
  .ret)))
theorem fn59 : Fn Go.Proofs.Try.prog 59 31 [.inl 4] c59 :=
  ⟨⟨_, _, Go.Proofs.Try.func59, rfl, by kernel_rfl, Go.Proofs.Try.ntmps59, by kernel_rfl, ⟨fun f => imp.contains f, false⟩, by kernel_rfl⟩⟩

def c60 : C :=
  (.seq (.reg [⟨(some 2), none, .alloc [(.int .i64 0), (.int .u64 0)]⟩])
  (.seq (.seq (.reg [⟨(some 3), none, .mv (t 0)⟩, ⟨(some 4), none, .bin .lss (t 3) (k (.int .i64 0))⟩])
  (.cond (t 4)
  (.seq (.reg [⟨(some 5), none, .mv (t 0)⟩, ⟨(some 6), none, .conv .u64 (t 5)⟩, ⟨(some 7), none, .build [(.int .i64 0), (.int .u64 0)] [(0, 1, (k (.int .i64 (-1)))), (1, 1, (t 6))]⟩, ⟨none, none, .store 2 (t 2) (t 7)⟩])
  .ret)
  .skip))
  (.seq (.reg [⟨(some 8), none, .mv (t 0)⟩, ⟨(some 9), none, .conv .u64 (t 8)⟩, ⟨(some 10), none, .build [(.int .i64 0), (.int .u64 0)] [(1, 1, (t 9))]⟩, ⟨none, none, .store 2 (t 2) (t 10)⟩])
  .ret)))
theorem fn60 : Fn Go.Proofs.Try.prog 60 11 [.inr (2, true, 2)] c60 :=
  ⟨⟨_, _, Go.Proofs.Try.func60, rfl, by kernel_rfl, Go.Proofs.Try.ntmps60, by kernel_rfl, ⟨fun f => imp.contains f, false⟩, by kernel_rfl⟩⟩

def c65 : C :=
  (.seq (.reg [⟨(some 2), none, .box (t 0)⟩, ⟨(some 3), none, .box (t 1)⟩, ⟨(some 4), none, .mv (k (.int .i64 0))⟩])
  (.seq (.seq (.reg [⟨(some 7), none, .faddr 0 (t 2)⟩, ⟨(some 8), none, .load false 1 (t 7)⟩, ⟨(some 9), none, .bin .neq (t 8) (k (.int .i64 5))⟩, ⟨(some 10), none, .mv (t 9)⟩, ⟨(some 11), (some (10, false)), .faddr 0 (t 3)⟩, ⟨(some 12), (some (10, false)), .load false 1 (t 11)⟩, ⟨(some 13), (some (10, false)), .bin .neq (t 12) (k (.int .i64 5))⟩, ⟨(some 14), none, .pick (t 10) (k (.bool true)) (t 13)⟩])
  (.cond (t 14)
  (.seq (.reg [⟨(some 15), none, .load true 4 (t 2)⟩, ⟨(some 16), none, .load true 4 (t 3)⟩, ⟨(some 17), none, .pcall (k (.fn 38 [] [])) [(t 15), (t 16)]⟩, ⟨(some 4), none, .mv (t 17)⟩])
  .ret)
  .skip))
  (.seq (.seq (.reg [⟨(some 5), none, .mv (k (.int .i64 0))⟩])
  (.block 0
  (.loop
  (.seq (.seq (.reg [⟨(some 18), none, .mv (t 5)⟩, ⟨(some 19), none, .faddr 3 (t 2)⟩, ⟨(some 20), none, .load false 1 (t 19)⟩, ⟨(some 21), none, .len (t 20)⟩, ⟨(some 22), none, .bin .lss (t 18) (t 21)⟩, ⟨(some 23), none, .mv (t 22)⟩, ⟨(some 24), (some (23, true)), .mv (t 5)⟩, ⟨(some 25), (some (23, true)), .faddr 3 (t 3)⟩, ⟨(some 26), (some (23, true)), .load false 1 (t 25)⟩, ⟨(some 27), (some (23, true)), .len (t 26)⟩, ⟨(some 28), (some (23, true)), .bin .lss (t 24) (t 27)⟩, ⟨(some 29), none, .pick (t 23) (t 28) (k (.bool false))⟩])
  (.cond (t 29)
  .skip
  (.exit 0)))
  (.seq (.block 1
  (.seq (.draw 0 [(⟨(some 32), none, .faddr 3 (t 2)⟩, []), (⟨(some 33), none, .load false 1 (t 32)⟩, []), (⟨(some 34), none, .mv (t 5)⟩, []), (⟨(some 35), none, .iaddr 4 (t 33) (t 34)⟩, []), (⟨(some 36), none, .load true 4 (t 35)⟩, []), (⟨(some 37), none, .faddr 3 (t 3)⟩, []), (⟨(some 38), none, .load false 1 (t 37)⟩, []), (⟨(some 39), none, .mv (t 5)⟩, []), (⟨(some 40), none, .iaddr 4 (t 38) (t 39)⟩, []), (⟨(some 41), none, .load true 4 (t 40)⟩, []), (⟨(some 42), none, .pcall (k (.fn 38 [] [])) [(t 36), (t 41)]⟩, []), (⟨(some 6), none, .mv (t 42)⟩, [])])
  (.seq (.reg [⟨(some 43), none, .mv (t 6)⟩, ⟨(some 44), none, .bin .neq (t 43) (k (.int .i64 0))⟩])
  (.cond (t 44)
  (.seq (.reg [⟨(some 45), none, .mv (t 6)⟩, ⟨(some 4), none, .mv (t 45)⟩])
  .ret)
  .skip))))
  (.reg [⟨(some 30), none, .mv (t 5)⟩, ⟨(some 31), none, .bin .add (t 30) (k (.int .i64 1))⟩, ⟨(some 5), none, .mv (t 31)⟩]))))))
  (.seq (.reg [⟨(some 46), none, .faddr 3 (t 2)⟩, ⟨(some 47), none, .load false 1 (t 46)⟩, ⟨(some 48), none, .len (t 47)⟩, ⟨(some 49), none, .faddr 3 (t 3)⟩, ⟨(some 50), none, .load false 1 (t 49)⟩, ⟨(some 51), none, .len (t 50)⟩, ⟨(some 52), none, .pcall (k (.fn 56 [] [])) [(t 48), (t 51)]⟩, ⟨(some 4), none, .mv (t 52)⟩])
  .ret))))
theorem fn65 : Fn Go.Proofs.Try.prog 65 53 [.inl 4] c65 :=
  ⟨⟨_, _, Go.Proofs.Try.func65, rfl, by kernel_rfl, Go.Proofs.Try.ntmps65, by kernel_rfl, ⟨fun f => imp.contains f, false⟩, by kernel_rfl⟩⟩

def c75 : C :=
  (.seq (.reg [⟨(some 2), none, .box (t 0)⟩, ⟨(some 3), none, .box (t 1)⟩, ⟨(some 4), none, .alloc [(.int .i64 0), (.int .i64 0), (.str []), .nils]⟩, ⟨(some 5), none, .mv (k (.int .i64 0))⟩])
  (.seq (.seq (.reg [⟨(some 6), none, .load true 4 (t 2)⟩, ⟨(some 7), none, .pcall (k (.fn 40 [] [])) [(t 6)]⟩, ⟨(some 8), none, .un .not (t 7)⟩, ⟨(some 9), none, .mv (t 8)⟩, ⟨(some 10), (some (9, false)), .load true 4 (t 3)⟩, ⟨(some 11), (some (9, false)), .pcall (k (.fn 40 [] [])) [(t 10)]⟩, ⟨(some 12), (some (9, false)), .un .not (t 11)⟩, ⟨(some 13), none, .pick (t 9) (k (.bool true)) (t 12)⟩])
  (.cond (t 13)
  (.seq (.reg [⟨(some 14), none, .build [(.int .i64 0), (.int .i64 0), (.str []), .nils] []⟩, ⟨none, none, .store 4 (t 4) (t 14)⟩, ⟨(some 5), none, .mv (k (.int .i64 1))⟩])
  .ret)
  .skip))
  (.seq (.seq (.reg [⟨(some 15), none, .load true 4 (t 2)⟩, ⟨(some 16), none, .load true 4 (t 3)⟩, ⟨(some 17), none, .pcall (k (.fn 91 [] [])) [(t 15), (t 16)]⟩])
  (.block 0
  (.seq (.seq (.reg [⟨(some 19), none, .build [(.int .i64 0), (.int .i64 0)] [(0, 1, (k (.int .i64 2))), (1, 1, (k (.int .i64 2)))]⟩, ⟨(some 20), none, .eqa [.int, .int] false (t 17) (t 19)⟩, ⟨(some 18), none, .mv (t 20)⟩])
  (.cond (t 18)
  .skip
  (.reg [⟨(some 21), none, .build [(.int .i64 0), (.int .i64 0)] [(0, 1, (k (.int .i64 4))), (1, 1, (k (.int .i64 4)))]⟩, ⟨(some 22), none, .eqa [.int, .int] false (t 17) (t 21)⟩, ⟨(some 18), none, .mv (t 22)⟩])))
  (.cond (t 18)
  (.seq (.reg [⟨(some 23), none, .faddr 1 (t 2)⟩, ⟨(some 24), none, .load false 1 (t 23)⟩, ⟨(some 25), none, .faddr 1 (t 3)⟩, ⟨(some 26), none, .load false 1 (t 25)⟩, ⟨(some 27), none, .pcall (k (.fn 93 [] [])) [(t 24), (t 26)]⟩, ⟨(some 28), none, .ext 0 (t 27)⟩, ⟨(some 29), none, .ext 1 (t 27)⟩, ⟨(some 30), none, .pcall (k (.fn 92 [] [])) [(t 28), (t 29)]⟩, ⟨(some 31), none, .ext 0 (t 30)⟩, ⟨(some 32), none, .ext 1 (t 30)⟩, ⟨none, none, .store 4 (t 4) (t 31)⟩, ⟨(some 5), none, .mv (t 32)⟩])
  .ret)
  (.seq (.reg [⟨(some 34), none, .build [(.int .i64 0), (.int .i64 0)] [(0, 1, (k (.int .i64 4))), (1, 1, (k (.int .i64 2)))]⟩, ⟨(some 35), none, .eqa [.int, .int] false (t 17) (t 34)⟩, ⟨(some 33), none, .mv (t 35)⟩])
  (.cond (t 33)
  (.seq (.reg [⟨(some 36), none, .faddr 1 (t 2)⟩, ⟨(some 37), none, .load false 1 (t 36)⟩, ⟨(some 38), none, .faddr 1 (t 3)⟩, ⟨(some 39), none, .load false 1 (t 38)⟩, ⟨(some 40), none, .pcall (k (.fn 93 [] [])) [(t 37), (t 39)]⟩, ⟨(some 41), none, .ext 0 (t 40)⟩, ⟨(some 42), none, .ext 1 (t 40)⟩, ⟨(some 43), none, .pcall (k (.fn 94 [] [])) [(t 41), (t 42)]⟩, ⟨(some 44), none, .ext 0 (t 43)⟩, ⟨(some 45), none, .ext 1 (t 43)⟩, ⟨none, none, .store 4 (t 4) (t 44)⟩, ⟨(some 5), none, .mv (t 45)⟩])
  .ret)
  .skip))))))
  (.seq (.reg [⟨(some 46), none, .build [(.int .i64 0), (.int .i64 0), (.str []), .nils] []⟩, ⟨none, none, .store 4 (t 4) (t 46)⟩, ⟨(some 5), none, .mv (k (.int .i64 6))⟩])
  .ret))))
theorem fn75 : Fn Go.Proofs.Try.prog 75 47 [.inr (4, true, 4), .inl 5] c75 :=
  ⟨⟨_, _, Go.Proofs.Try.func75, rfl, by kernel_rfl, Go.Proofs.Try.ntmps75, by kernel_rfl, ⟨fun f => imp.contains f, false⟩, by kernel_rfl⟩⟩

def c83 : C :=
  (.seq (.reg [⟨(some 4), none, .mv (k (.int .i64 0))⟩])
  (.seq (.reg [⟨(some 7), none, .mv (t 0)⟩, ⟨(some 8), none, .pcall (k (.fn 99 [] [])) [(t 7)]⟩, ⟨(some 5), none, .mv (t 8)⟩])
  (.seq (.reg [⟨(some 9), none, .mv (t 1)⟩, ⟨(some 10), none, .pcall (k (.fn 99 [] [])) [(t 9)]⟩, ⟨(some 6), none, .mv (t 10)⟩])
  (.seq (.seq (.reg [⟨(some 11), none, .mv (t 5)⟩])
  (.cond (t 11)
  (.seq (.seq (.reg [⟨(some 12), none, .mv (t 6)⟩])
  (.cond (t 12)
  (.seq (.reg [⟨(some 4), none, .mv (k (.int .i64 0))⟩])
  .ret)
  .skip))
  (.seq (.reg [⟨(some 4), none, .mv (k (.int .i64 (-1)))⟩])
  .ret))
  .skip))
  (.seq (.seq (.reg [⟨(some 13), none, .mv (t 6)⟩])
  (.cond (t 13)
  (.seq (.reg [⟨(some 4), none, .mv (k (.int .i64 1))⟩])
  .ret)
  .skip))
  (.seq (.seq (.reg [⟨(some 14), none, .mv (t 0)⟩, ⟨(some 15), none, .mv (t 1)⟩, ⟨(some 16), none, .bin .lss (t 14) (t 15)⟩])
  (.cond (t 16)
  (.seq (.reg [⟨(some 4), none, .mv (k (.int .i64 (-1)))⟩])
  .ret)
  .skip))
  (.seq (.seq (.reg [⟨(some 17), none, .mv (t 0)⟩, ⟨(some 18), none, .mv (t 1)⟩, ⟨(some 19), none, .bin .gtr (t 17) (t 18)⟩])
  (.cond (t 19)
  (.seq (.reg [⟨(some 4), none, .mv (k (.int .i64 1))⟩])
  .ret)
  .skip))
  (.seq (.reg [⟨(some 4), none, .mv (k (.int .i64 0))⟩])
  .ret))))))))
theorem fn83 : Fn Go.Proofs.Try.prog 83 20 [.inl 4] c83 :=
  ⟨⟨_, _, Go.Proofs.Try.func83, rfl, by kernel_rfl, Go.Proofs.Try.ntmps83, by kernel_rfl, ⟨fun f => imp.contains f, false⟩, by kernel_rfl⟩⟩

def c87 : C :=
  (.seq (.reg [⟨(some 4), none, .mv (k (.int .i64 0))⟩])
  (.seq (.seq (.reg [⟨(some 6), none, .mv (t 0)⟩, ⟨(some 7), none, .len (t 6)⟩, ⟨(some 8), none, .mv (k (.int .i64 0))⟩])
  (.block 0
  (.loop
  (.seq (.reg [⟨(some 9), none, .bin .lss (t 8) (t 7)⟩])
  (.seq (.cond (t 9)
  .skip
  (.exit 0))
  (.seq (.block 1
  (.seq (.reg [⟨(some 10), none, .mv (t 8)⟩, ⟨(some 5), none, .mv (t 10)⟩])
  (.seq (.reg [⟨(some 11), none, .mv (t 1)⟩, ⟨(some 12), none, .mv (t 0)⟩, ⟨(some 13), none, .mv (t 5)⟩, ⟨(some 14), none, .iaddr 8 (t 12) (t 13)⟩, ⟨(some 15), none, .load true 8 (t 14)⟩, ⟨(some 16), none, .pcall (t 11) [(t 15)]⟩])
  (.cond (t 16)
  (.seq (.reg [⟨(some 17), none, .mv (t 5)⟩, ⟨(some 4), none, .mv (t 17)⟩])
  .ret)
  .skip))))
  (.reg [⟨(some 18), none, .bin .add (t 8) (k (.int .i64 1))⟩, ⟨(some 8), none, .mv (t 18)⟩])))))))
  (.seq (.reg [⟨(some 4), none, .mv (k (.int .i64 (-1)))⟩])
  .ret)))
theorem fn87 : Fn Go.Proofs.Try.prog 87 19 [.inl 4] c87 :=
  ⟨⟨_, _, Go.Proofs.Try.func87, rfl, by kernel_rfl, Go.Proofs.Try.ntmps87, by kernel_rfl, ⟨fun f => imp.contains f, false⟩, by kernel_rfl⟩⟩

def c92 : C :=
  (.seq (.reg [⟨(some 4), none, .alloc [(.int .i64 0), (.int .i64 0), (.str []), .nils]⟩, ⟨(some 5), none, .mv (k (.int .i64 0))⟩])
  (.seq (.seq (.reg [⟨(some 6), none, .mv (t 1)⟩, ⟨(some 7), none, .un .not (t 6)⟩])
  (.cond (t 7)
  (.seq (.reg [⟨(some 8), none, .build [(.int .i64 0), (.int .i64 0), (.str []), .nils] []⟩, ⟨none, none, .store 4 (t 4) (t 8)⟩, ⟨(some 5), none, .mv (k (.int .i64 7))⟩])
  .ret)
  .skip))
  (.seq (.reg [⟨(some 9), none, .mv (t 0)⟩, ⟨(some 10), none, .pcall (k (.fn 76 [] [])) [(t 9)]⟩, ⟨none, none, .store 4 (t 4) (t 10)⟩, ⟨(some 5), none, .mv (k (.int .i64 0))⟩])
  .ret)))
theorem fn92 : Fn Go.Proofs.Try.prog 92 11 [.inr (4, true, 4), .inl 5] c92 :=
  ⟨⟨_, _, Go.Proofs.Try.func92, rfl, by kernel_rfl, Go.Proofs.Try.ntmps92, by kernel_rfl, ⟨fun f => imp.contains f, false⟩, by kernel_rfl⟩⟩

end GP
namespace GP
open Go Go.Proofs
open Rd O
set_option maxRecDepth 100000
def c4 : C :=
  (.seq (.reg [⟨(some 4), none, .box (t 1)⟩, ⟨(some 5), none, .box (t 2)⟩, ⟨(some 6), none, .mv (k (.bool false))⟩])
  (.seq (.seq (.reg [⟨(some 13), none, .pcall (k (.fn 11 [] [])) []⟩, ⟨(some 14), none, .un .not (t 13)⟩, ⟨(some 15), none, .mv (t 14)⟩, ⟨(some 16), (some (15, false)), .mv (t 0)⟩, ⟨(some 17), (some (15, false)), .len (t 16)⟩, ⟨(some 18), (some (15, false)), .bin .gtr (t 17) (k (.int .i64 12))⟩, ⟨(some 19), none, .pick (t 15) (k (.bool true)) (t 18)⟩, ⟨(some 20), none, .mv (t 19)⟩, ⟨(some 21), (some (20, false)), .load true 8 (t 4)⟩, ⟨(some 22), (some (20, false)), .pcall (k (.fn 12 [] [])) [(t 21)]⟩, ⟨(some 23), (some (20, false)), .un .not (t 22)⟩, ⟨(some 24), none, .pick (t 20) (k (.bool true)) (t 23)⟩, ⟨(some 25), none, .mv (t 24)⟩, ⟨(some 26), (some (25, false)), .load true 3 (t 5)⟩, ⟨(some 27), (some (25, false)), .pcall (k (.fn 13 [] [])) [(t 26)]⟩, ⟨(some 28), (some (25, false)), .un .not (t 27)⟩, ⟨(some 29), none, .pick (t 25) (k (.bool true)) (t 28)⟩])
  (.cond (t 29)
  (.seq (.reg [⟨(some 30), none, .pcall (k (.fn 11 [] [])) []⟩, ⟨(some 6), none, .mv (t 30)⟩])
  .ret)
  .skip))
  (.seq (.reg [⟨(some 31), none, .mv (t 0)⟩, ⟨(some 32), none, .pcall (k (.fn 14 [] [])) [(t 31)]⟩, ⟨(some 7), none, .mv (t 32)⟩])
  (.seq (.reg [⟨(some 34), none, .mv (t 7)⟩, ⟨(some 35), none, .load true 8 (t 4)⟩, ⟨(some 36), none, .pcall (k (.fn 15 [] [])) [(t 34), (t 35)]⟩, ⟨(some 33), none, .mv (t 36)⟩, ⟨(some 37), none, .ext 0 (t 33)⟩, ⟨(some 38), none, .ext 1 (t 33)⟩, ⟨(some 8), none, .mv (t 37)⟩, ⟨(some 9), none, .mv (t 38)⟩])
  (.seq (.seq (.reg [⟨(some 39), none, .mv (t 9)⟩, ⟨(some 40), none, .bin .neq (t 39) (k (.int .i64 0))⟩, ⟨(some 41), none, .mv (t 40)⟩, ⟨(some 42), (some (41, false)), .mv (t 7)⟩, ⟨(some 43), (some (41, false)), .load true 3 (t 5)⟩, ⟨(some 44), (some (41, false)), .pcall (k (.fn 16 [] [])) [(t 42), (t 43)]⟩, ⟨(some 45), (some (41, false)), .un .not (t 44)⟩, ⟨(some 46), none, .pick (t 41) (k (.bool true)) (t 45)⟩])
  (.cond (t 46)
  (.seq (.reg [⟨(some 6), none, .mv (k (.bool true))⟩])
  .ret)
  .skip))
  (.seq (.reg [⟨(some 48), none, .load true 8 (t 4)⟩, ⟨(some 49), none, .load true 3 (t 5)⟩, ⟨(some 50), none, .pcall (k (.fn 17 [] [])) [(t 48), (t 49)]⟩, ⟨(some 47), none, .mv (t 50)⟩, ⟨(some 51), none, .ext 0 (t 47)⟩, ⟨(some 52), none, .ext 1 (t 47)⟩, ⟨(some 10), none, .alloc [(.int .i64 0), (.int .i64 0), (.str []), .nils]⟩, ⟨none, none, .store 4 (t 10) (t 51)⟩, ⟨(some 11), none, .mv (t 52)⟩])
  (.seq (.seq (.reg [⟨(some 53), none, .mv (t 11)⟩, ⟨(some 54), none, .bin .neq (t 53) (k (.int .i64 0))⟩])
  (.cond (t 54)
  (.seq (.reg [⟨(some 55), none, .mv (t 11)⟩, ⟨(some 56), none, .bin .eql (t 55) (k (.int .i64 8))⟩, ⟨(some 57), none, .mv (t 56)⟩, ⟨(some 58), (some (57, false)), .mv (t 11)⟩, ⟨(some 59), (some (57, false)), .bin .eql (t 58) (k (.int .i64 7))⟩, ⟨(some 60), none, .pick (t 57) (k (.bool true)) (t 59)⟩, ⟨(some 6), none, .mv (t 60)⟩])
  .ret)
  .skip))
  (.seq (.reg [⟨(some 61), none, .faddr 0 (t 10)⟩, ⟨(some 62), none, .load false 1 (t 61)⟩, ⟨(some 12), none, .mv (t 62)⟩])
  (.seq (.seq (.reg [⟨(some 63), none, .mv (t 12)⟩, ⟨(some 64), none, .bin .eql (t 63) (k (.int .i64 5))⟩, ⟨(some 65), none, .mv (t 64)⟩, ⟨(some 66), (some (65, true)), .faddr 3 (t 10)⟩, ⟨(some 67), (some (65, true)), .load false 1 (t 66)⟩, ⟨(some 68), (some (65, true)), .len (t 67)⟩, ⟨(some 69), (some (65, true)), .bin .gtr (t 68) (k (.int .i64 0))⟩, ⟨(some 70), none, .pick (t 65) (t 69) (k (.bool false))⟩])
  (.cond (t 70)
  (.reg [⟨(some 71), none, .faddr 3 (t 10)⟩, ⟨(some 72), none, .load false 1 (t 71)⟩, ⟨(some 73), none, .iaddr 4 (t 72) (k (.int .i64 0))⟩, ⟨(some 74), none, .faddr 0 (t 73)⟩, ⟨(some 75), none, .load false 1 (t 74)⟩, ⟨(some 76), none, .bin .add (k (.int .i64 10)) (t 75)⟩, ⟨(some 12), none, .mv (t 76)⟩])
  .skip))
  (.seq (.reg [⟨(some 77), none, .load true 4 (t 10)⟩, ⟨(some 78), none, .pcall (k (.fn 18 [] [])) [(t 77)]⟩, ⟨(some 79), none, .mv (t 78)⟩, ⟨(some 80), (some (79, true)), .mv (t 12)⟩, ⟨(some 81), (some (79, true)), .mv (t 8)⟩, ⟨(some 82), (some (79, true)), .bin .eql (t 80) (t 81)⟩, ⟨(some 83), (some (79, true)), .mv (t 82)⟩, ⟨(some 84), (some (83, false)), .mv (t 12)⟩, ⟨(some 85), (some (83, false)), .bin .eql (t 84) (k (.int .i64 5))⟩, ⟨(some 86), (some (83, false)), .mv (t 85)⟩, ⟨(some 87), (some (86, true)), .mv (t 8)⟩, ⟨(some 88), (some (86, true)), .bin .gtr (t 87) (k (.int .i64 10))⟩, ⟨(some 89), (some (83, false)), .pick (t 86) (t 88) (k (.bool false))⟩, ⟨(some 90), (some (79, true)), .pick (t 83) (k (.bool true)) (t 89)⟩, ⟨(some 91), none, .pick (t 79) (t 90) (k (.bool false))⟩, ⟨(some 6), none, .mv (t 91)⟩])
  .ret))))))))))
theorem fn4 : Fn Go.Proofs.Try.prog 4 92 [.inl 6] c4 :=
  ⟨⟨_, _, Go.Proofs.Try.func4, rfl, by kernel_rfl, Go.Proofs.Try.ntmps4, by kernel_rfl, ⟨fun f => imp.contains f, false⟩, by kernel_rfl⟩⟩

def c40 : C :=
  (.seq (.reg [⟨(some 1), none, .box (t 0)⟩, ⟨(some 2), none, .mv (k (.bool false))⟩])
  (.seq (.seq (.reg [⟨(some 5), none, .faddr 0 (t 1)⟩, ⟨(some 6), none, .load false 1 (t 5)⟩, ⟨(some 7), none, .bin .neq (t 6) (k (.int .i64 5))⟩])
  (.cond (t 7)
  (.seq (.reg [⟨(some 8), none, .load true 4 (t 1)⟩, ⟨(some 9), none, .pcall (k (.fn 58 [] [])) [(t 8)]⟩, ⟨(some 2), none, .mv (t 9)⟩])
  .ret)
  .skip))
  (.seq (.seq (.reg [⟨(some 10), none, .faddr 3 (t 1)⟩, ⟨(some 11), none, .load false 1 (t 10)⟩, ⟨(some 12), none, .len (t 11)⟩, ⟨(some 13), none, .mv (k (.int .i64 0))⟩])
  (.block 0
  (.loop
  (.seq (.reg [⟨(some 14), none, .bin .lss (t 13) (t 12)⟩])
  (.seq (.cond (t 14)
  .skip
  (.exit 0))
  (.seq (.block 1
  (.seq (.reg [⟨(some 15), none, .mv (t 13)⟩, ⟨(some 16), none, .iaddr 4 (t 11) (t 13)⟩, ⟨(some 17), none, .load true 4 (t 16)⟩, ⟨(some 4), none, .alloc [(.int .i64 0), (.int .i64 0), (.str []), .nils]⟩, ⟨(some 3), none, .mv (t 15)⟩, ⟨none, none, .store 4 (t 4) (t 17)⟩])
  (.seq (.draw 0 [(⟨(some 18), none, .load true 4 (t 4)⟩, []), (⟨(some 19), none, .pcall (k (.fn 58 [] [])) [(t 18)]⟩, []), (⟨(some 20), none, .un .not (t 19)⟩, []), (⟨(some 21), none, .mv (t 20)⟩, []), (⟨(some 22), (some (21, false)), .faddr 0 (t 4)⟩, []), (⟨(some 23), (some (21, false)), .load false 1 (t 22)⟩, []), (⟨(some 24), (some (21, false)), .bin .eql (t 23) (k (.int .i64 0))⟩, []), (⟨(some 25), none, .pick (t 21) (k (.bool true)) (t 24)⟩, []), (⟨(some 26), none, .mv (t 25)⟩, []), (⟨(some 27), (some (26, false)), .faddr 0 (t 4)⟩, []), (⟨(some 28), (some (26, false)), .load false 1 (t 27)⟩, []), (⟨(some 29), (some (26, false)), .faddr 3 (t 1)⟩, []), (⟨(some 30), (some (26, false)), .load false 1 (t 29)⟩, []), (⟨(some 31), (some (26, false)), .iaddr 4 (t 30) (k (.int .i64 0))⟩, []), (⟨(some 32), (some (26, false)), .faddr 0 (t 31)⟩, []), (⟨(some 33), (some (26, false)), .load false 1 (t 32)⟩, []), (⟨(some 34), (some (26, false)), .bin .neq (t 28) (t 33)⟩, []), (⟨(some 35), none, .pick (t 26) (k (.bool true)) (t 34)⟩, []), (⟨(some 36), none, .mv (t 35)⟩, []), (⟨(some 37), (some (36, false)), .mv (t 3)⟩, []), (⟨(some 38), (some (36, false)), .bin .gtr (t 37) (k (.int .i64 0))⟩, []), (⟨(some 39), (some (36, false)), .mv (t 38)⟩, []), (⟨(some 40), (some (39, true)), .faddr 3 (t 1)⟩, []), (⟨(some 41), (some (39, true)), .load false 1 (t 40)⟩, []), (⟨(some 42), (some (39, true)), .mv (t 3)⟩, []), (⟨(some 43), (some (39, true)), .bin .sub (t 42) (k (.int .i64 1))⟩, []), (⟨(some 44), (some (39, true)), .iaddr 4 (t 41) (t 43)⟩, []), (⟨(some 45), (some (39, true)), .load true 4 (t 44)⟩, []), (⟨(some 46), (some (39, true)), .load true 4 (t 4)⟩, []), (⟨(some 47), (some (39, true)), .pcall (k (.fn 59 [] [])) [(t 45), (t 46)]⟩, []), (⟨(some 48), (some (39, true)), .bin .geq (t 47) (k (.int .i64 0))⟩, []), (⟨(some 49), (some (36, false)), .pick (t 39) (t 48) (k (.bool false))⟩, []), (⟨(some 50), none, .pick (t 36) (k (.bool true)) (t 49)⟩, [])])
  (.cond (t 50)
  (.seq (.reg [⟨(some 2), none, .mv (k (.bool false))⟩])
  .ret)
  .skip))))
  (.reg [⟨(some 51), none, .bin .add (t 13) (k (.int .i64 1))⟩, ⟨(some 13), none, .mv (t 51)⟩])))))))
  (.seq (.reg [⟨(some 52), none, .faddr 1 (t 1)⟩, ⟨(some 53), none, .load false 1 (t 52)⟩, ⟨(some 54), none, .bin .eql (t 53) (k (.int .i64 0))⟩, ⟨(some 55), none, .mv (t 54)⟩, ⟨(some 56), (some (55, true)), .faddr 2 (t 1)⟩, ⟨(some 57), (some (55, true)), .load false 1 (t 56)⟩, ⟨(some 58), (some (55, true)), .bin .eql (t 57) (k (.str []))⟩, ⟨(some 59), none, .pick (t 55) (t 58) (k (.bool false))⟩, ⟨(some 60), none, .mv (t 59)⟩, ⟨(some 61), (some (60, true)), .faddr 3 (t 1)⟩, ⟨(some 62), (some (60, true)), .load false 1 (t 61)⟩, ⟨(some 63), (some (60, true)), .len (t 62)⟩, ⟨(some 64), (some (60, true)), .bin .leq (t 63) (k (.int .i64 16))⟩, ⟨(some 65), none, .pick (t 60) (t 64) (k (.bool false))⟩, ⟨(some 2), none, .mv (t 65)⟩])
  .ret))))
theorem fn40 : Fn Go.Proofs.Try.prog 40 66 [.inl 2] c40 :=
  ⟨⟨_, _, Go.Proofs.Try.func40, rfl, by kernel_rfl, Go.Proofs.Try.ntmps40, by kernel_rfl, ⟨fun f => imp.contains f, false⟩, by kernel_rfl⟩⟩

def c45 : C :=
  (.seq (.reg [⟨(some 4), none, .box (t 1)⟩, ⟨(some 5), none, .box (t 2)⟩, ⟨(some 6), none, .alloc [(.int .i64 0), (.int .i64 0), (.str []), .nils]⟩, ⟨(some 7), none, .mv (k (.int .i64 0))⟩])
  (.seq (.reg [⟨(some 14), none, .build [(.int .i64 0), (.int .i64 0), (.str []), .nils] []⟩, ⟨(some 8), none, .alloc [(.int .i64 0), (.int .i64 0), (.str []), .nils]⟩, ⟨none, none, .store 4 (t 8) (t 14)⟩])
  (.seq (.seq (.reg [⟨(some 15), none, .mv (t 0)⟩, ⟨(some 16), none, .bin .eql (t 15) (k (.str [43]))⟩, ⟨(some 17), none, .mv (t 16)⟩, ⟨(some 18), (some (17, false)), .mv (t 0)⟩, ⟨(some 19), (some (17, false)), .bin .eql (t 18) (k (.str [45]))⟩, ⟨(some 20), none, .pick (t 17) (k (.bool true)) (t 19)⟩])
  (.cond (t 20)
  (.seq (.reg [⟨(some 21), none, .load true 4 (t 4)⟩, ⟨(some 22), none, .load true 4 (t 5)⟩, ⟨(some 23), none, .mv (t 0)⟩, ⟨(some 24), none, .bin .eql (t 23) (k (.str [45]))⟩, ⟨(some 25), none, .pcall (k (.fn 44 [] [])) [(t 21), (t 22), (t 24)]⟩, ⟨(some 26), none, .ext 0 (t 25)⟩, ⟨(some 27), none, .ext 1 (t 25)⟩, ⟨none, none, .store 4 (t 6) (t 26)⟩, ⟨(some 7), none, .mv (t 27)⟩])
  .ret)
  .skip))
  (.seq (.seq (.reg [⟨(some 28), none, .mv (t 0)⟩, ⟨(some 29), none, .bin .eql (t 28) (k (.str [42]))⟩])
  (.cond (t 29)
  (.seq (.seq (.reg [⟨(some 30), none, .faddr 0 (t 4)⟩, ⟨(some 31), none, .load false 1 (t 30)⟩, ⟨(some 32), none, .bin .neq (t 31) (k (.int .i64 2))⟩, ⟨(some 33), none, .mv (t 32)⟩, ⟨(some 34), (some (33, false)), .faddr 0 (t 5)⟩, ⟨(some 35), (some (33, false)), .load false 1 (t 34)⟩, ⟨(some 36), (some (33, false)), .bin .neq (t 35) (k (.int .i64 2))⟩, ⟨(some 37), none, .pick (t 33) (k (.bool true)) (t 36)⟩])
  (.cond (t 37)
  (.seq (.reg [⟨(some 38), none, .load true 4 (t 8)⟩, ⟨none, none, .store 4 (t 6) (t 38)⟩, ⟨(some 7), none, .mv (k (.int .i64 6))⟩])
  .ret)
  .skip))
  (.seq (.reg [⟨(some 40), none, .faddr 1 (t 4)⟩, ⟨(some 41), none, .load false 1 (t 40)⟩, ⟨(some 42), none, .faddr 1 (t 5)⟩, ⟨(some 43), none, .load false 1 (t 42)⟩, ⟨(some 44), none, .pcall (k (.fn 64 [] [])) [(t 41), (t 43)]⟩, ⟨(some 45), none, .pcall (k (.fn 63 [] [])) [(t 44)]⟩, ⟨(some 39), none, .mv (t 45)⟩, ⟨(some 46), none, .ext 0 (t 39)⟩, ⟨(some 47), none, .ext 1 (t 39)⟩, ⟨(some 9), none, .mv (t 46)⟩, ⟨(some 10), none, .mv (t 47)⟩])
  (.seq (.seq (.reg [⟨(some 48), none, .mv (t 10)⟩, ⟨(some 49), none, .un .not (t 48)⟩])
  (.cond (t 49)
  (.seq (.reg [⟨(some 50), none, .load true 4 (t 8)⟩, ⟨none, none, .store 4 (t 6) (t 50)⟩, ⟨(some 7), none, .mv (k (.int .i64 7))⟩])
  .ret)
  .skip))
  (.seq (.reg [⟨(some 51), none, .mv (t 9)⟩, ⟨(some 52), none, .build [(.int .i64 0), (.int .i64 0), (.str []), .nils] [(0, 1, (k (.int .i64 2))), (1, 1, (t 51))]⟩, ⟨none, none, .store 4 (t 6) (t 52)⟩, ⟨(some 7), none, .mv (k (.int .i64 0))⟩])
  .ret))))
  .skip))
  (.seq (.seq (.reg [⟨(some 53), none, .mv (t 0)⟩, ⟨(some 54), none, .bin .eql (t 53) (k (.str [105, 110]))⟩])
  (.cond (t 54)
  (.seq (.seq (.draw 0 [(⟨(some 55), none, .faddr 0 (t 5)⟩, []), (⟨(some 56), none, .load false 1 (t 55)⟩, []), (⟨(some 57), none, .bin .neq (t 56) (k (.int .i64 5))⟩, []), (⟨(some 58), none, .mv (t 57)⟩, []), (⟨(some 59), (some (58, false)), .faddr 0 (t 4)⟩, []), (⟨(some 60), (some (58, false)), .load false 1 (t 59)⟩, []), (⟨(some 61), (some (58, false)), .bin .eql (t 60) (k (.int .i64 5))⟩, []), (⟨(some 62), none, .pick (t 58) (k (.bool true)) (t 61)⟩, []), (⟨(some 63), none, .mv (t 62)⟩, []), (⟨(some 64), (some (63, false)), .faddr 3 (t 5)⟩, []), (⟨(some 65), (some (63, false)), .load false 1 (t 64)⟩, []), (⟨(some 66), (some (63, false)), .len (t 65)⟩, []), (⟨(some 67), (some (63, false)), .bin .gtr (t 66) (k (.int .i64 0))⟩, []), (⟨(some 68), (some (63, false)), .mv (t 67)⟩, []), (⟨(some 69), (some (68, true)), .faddr 3 (t 5)⟩, []), (⟨(some 70), (some (68, true)), .load false 1 (t 69)⟩, []), (⟨(some 71), (some (68, true)), .iaddr 4 (t 70) (k (.int .i64 0))⟩, []), (⟨(some 72), (some (68, true)), .faddr 0 (t 71)⟩, []), (⟨(some 73), (some (68, true)), .load false 1 (t 72)⟩, []), (⟨(some 74), (some (68, true)), .faddr 0 (t 4)⟩, []), (⟨(some 75), (some (68, true)), .load false 1 (t 74)⟩, []), (⟨(some 76), (some (68, true)), .bin .neq (t 73) (t 75)⟩, []), (⟨(some 77), (some (63, false)), .pick (t 68) (t 76) (k (.bool false))⟩, []), (⟨(some 78), none, .pick (t 63) (k (.bool true)) (t 77)⟩, [])])
  (.cond (t 78)
  (.seq (.reg [⟨(some 79), none, .load true 4 (t 8)⟩, ⟨none, none, .store 4 (t 6) (t 79)⟩, ⟨(some 7), none, .mv (k (.int .i64 6))⟩])
  .ret)
  .skip))
  (.seq (.seq (.reg [⟨(some 11), none, .mv (k (.int .i64 0))⟩])
  (.block 0
  (.loop
  (.seq (.seq (.reg [⟨(some 80), none, .mv (t 11)⟩, ⟨(some 81), none, .faddr 3 (t 5)⟩, ⟨(some 82), none, .load false 1 (t 81)⟩, ⟨(some 83), none, .len (t 82)⟩, ⟨(some 84), none, .bin .lss (t 80) (t 83)⟩])
  (.cond (t 84)
  .skip
  (.exit 0)))
  (.seq (.block 1
  (.seq (.draw 0 [(⟨(some 87), none, .faddr 3 (t 5)⟩, []), (⟨(some 88), none, .load false 1 (t 87)⟩, []), (⟨(some 89), none, .mv (t 11)⟩, []), (⟨(some 90), none, .iaddr 4 (t 88) (t 89)⟩, []), (⟨(some 91), none, .load true 4 (t 90)⟩, []), (⟨(some 92), none, .load true 4 (t 4)⟩, []), (⟨(some 93), none, .pcall (k (.fn 65 [] [])) [(t 91), (t 92)]⟩, []), (⟨(some 94), none, .bin .eql (t 93) (k (.int .i64 0))⟩, [])])
  (.cond (t 94)
  (.seq (.reg [⟨(some 95), none, .pcall (k (.fn 43 [] [])) [(k (.bool true))]⟩, ⟨none, none, .store 4 (t 6) (t 95)⟩, ⟨(some 7), none, .mv (k (.int .i64 0))⟩])
  .ret)
  .skip)))
  (.reg [⟨(some 85), none, .mv (t 11)⟩, ⟨(some 86), none, .bin .add (t 85) (k (.int .i64 1))⟩, ⟨(some 11), none, .mv (t 86)⟩]))))))
  (.seq (.reg [⟨(some 96), none, .pcall (k (.fn 43 [] [])) [(k (.bool false))]⟩, ⟨none, none, .store 4 (t 6) (t 96)⟩, ⟨(some 7), none, .mv (k (.int .i64 0))⟩])
  .ret)))
  .skip))
  (.seq (.reg [⟨(some 98), none, .mv (t 0)⟩, ⟨(some 99), none, .load true 4 (t 4)⟩, ⟨(some 100), none, .load true 4 (t 5)⟩, ⟨(some 101), none, .pcall (k (.fn 66 [] [])) [(t 98), (t 99), (t 100)]⟩, ⟨(some 97), none, .mv (t 101)⟩, ⟨(some 102), none, .ext 0 (t 97)⟩, ⟨(some 103), none, .ext 1 (t 97)⟩, ⟨(some 12), none, .mv (t 102)⟩, ⟨(some 13), none, .mv (t 103)⟩])
  (.seq (.seq (.reg [⟨(some 104), none, .mv (t 13)⟩, ⟨(some 105), none, .bin .neq (t 104) (k (.int .i64 0))⟩])
  (.cond (t 105)
  (.seq (.reg [⟨(some 106), none, .load true 4 (t 8)⟩, ⟨(some 107), none, .mv (t 13)⟩, ⟨none, none, .store 4 (t 6) (t 106)⟩, ⟨(some 7), none, .mv (t 107)⟩])
  .ret)
  .skip))
  (.seq (.reg [⟨(some 108), none, .mv (t 12)⟩, ⟨(some 109), none, .pcall (k (.fn 43 [] [])) [(t 108)]⟩, ⟨none, none, .store 4 (t 6) (t 109)⟩, ⟨(some 7), none, .mv (k (.int .i64 0))⟩])
  .ret))))))))
theorem fn45 : Fn Go.Proofs.Try.prog 45 110 [.inr (6, true, 4), .inl 7] c45 :=
  ⟨⟨_, _, Go.Proofs.Try.func45, rfl, by kernel_rfl, Go.Proofs.Try.ntmps45, by kernel_rfl, ⟨fun f => imp.contains f, false⟩, by kernel_rfl⟩⟩

def c46 : C :=
  (.seq (.reg [⟨(some 2), none, .mv (k (.int .i64 0))⟩])
  (.seq (.seq (.reg [⟨(some 3), none, .mv (t 0)⟩])
  (.block 0
  (.seq (.seq (.reg [⟨(some 5), none, .bin .eql (t 3) (k (.str [118, 97, 108, 117, 101]))⟩, ⟨(some 4), none, .mv (t 5)⟩])
  (.cond (t 4)
  .skip
  (.seq (.reg [⟨(some 6), none, .bin .eql (t 3) (k (.str [110, 111, 119]))⟩, ⟨(some 4), none, .mv (t 6)⟩])
  (.cond (t 4)
  .skip
  (.seq (.reg [⟨(some 7), none, .bin .eql (t 3) (k (.str [97, 116, 116, 114]))⟩, ⟨(some 4), none, .mv (t 7)⟩])
  (.cond (t 4)
  .skip
  (.seq (.reg [⟨(some 8), none, .bin .eql (t 3) (k (.str [104, 97, 115]))⟩, ⟨(some 4), none, .mv (t 8)⟩])
  (.cond (t 4)
  .skip
  (.reg [⟨(some 9), none, .bin .eql (t 3) (k (.str [114, 111, 108, 101]))⟩, ⟨(some 4), none, .mv (t 9)⟩])))))))))
  (.cond (t 4)
  (.seq (.reg [⟨(some 2), none, .mv (k (.int .i64 0))⟩])
  .ret)
  (.seq (.seq (.reg [⟨(some 11), none, .bin .eql (t 3) (k (.str [110, 111, 116]))⟩, ⟨(some 10), none, .mv (t 11)⟩])
  (.cond (t 10)
  .skip
  (.seq (.reg [⟨(some 12), none, .bin .eql (t 3) (k (.str [110, 101, 103]))⟩, ⟨(some 10), none, .mv (t 12)⟩])
  (.cond (t 10)
  .skip
  (.reg [⟨(some 13), none, .bin .eql (t 3) (k (.str [115, 105, 122, 101]))⟩, ⟨(some 10), none, .mv (t 13)⟩])))))
  (.cond (t 10)
  (.seq (.reg [⟨(some 2), none, .mv (k (.int .i64 1))⟩])
  .ret)
  (.seq (.seq (.reg [⟨(some 15), none, .bin .eql (t 3) (k (.str [97, 110, 100]))⟩, ⟨(some 14), none, .mv (t 15)⟩])
  (.cond (t 14)
  .skip
  (.seq (.reg [⟨(some 16), none, .bin .eql (t 3) (k (.str [111, 114]))⟩, ⟨(some 14), none, .mv (t 16)⟩])
  (.cond (t 14)
  .skip
  (.seq (.reg [⟨(some 17), none, .bin .eql (t 3) (k (.str [43]))⟩, ⟨(some 14), none, .mv (t 17)⟩])
  (.cond (t 14)
  .skip
  (.seq (.reg [⟨(some 18), none, .bin .eql (t 3) (k (.str [45]))⟩, ⟨(some 14), none, .mv (t 18)⟩])
  (.cond (t 14)
  .skip
  (.seq (.reg [⟨(some 19), none, .bin .eql (t 3) (k (.str [42]))⟩, ⟨(some 14), none, .mv (t 19)⟩])
  (.cond (t 14)
  .skip
  (.seq (.reg [⟨(some 20), none, .bin .eql (t 3) (k (.str [61, 61]))⟩, ⟨(some 14), none, .mv (t 20)⟩])
  (.cond (t 14)
  .skip
  (.seq (.reg [⟨(some 21), none, .bin .eql (t 3) (k (.str [33, 61]))⟩, ⟨(some 14), none, .mv (t 21)⟩])
  (.cond (t 14)
  .skip
  (.seq (.reg [⟨(some 22), none, .bin .eql (t 3) (k (.str [60]))⟩, ⟨(some 14), none, .mv (t 22)⟩])
  (.cond (t 14)
  .skip
  (.seq (.reg [⟨(some 23), none, .bin .eql (t 3) (k (.str [60, 61]))⟩, ⟨(some 14), none, .mv (t 23)⟩])
  (.cond (t 14)
  .skip
  (.seq (.reg [⟨(some 24), none, .bin .eql (t 3) (k (.str [62]))⟩, ⟨(some 14), none, .mv (t 24)⟩])
  (.cond (t 14)
  .skip
  (.seq (.reg [⟨(some 25), none, .bin .eql (t 3) (k (.str [62, 61]))⟩, ⟨(some 14), none, .mv (t 25)⟩])
  (.cond (t 14)
  .skip
  (.reg [⟨(some 26), none, .bin .eql (t 3) (k (.str [105, 110]))⟩, ⟨(some 14), none, .mv (t 26)⟩])))))))))))))))))))))))
  (.cond (t 14)
  (.seq (.reg [⟨(some 2), none, .mv (k (.int .i64 2))⟩])
  .ret)
  .skip))))))))
  (.seq (.reg [⟨(some 2), none, .mv (k (.int .i64 (-1)))⟩])
  .ret)))
theorem fn46 : Fn Go.Proofs.Try.prog 46 27 [.inl 2] c46 :=
  ⟨⟨_, _, Go.Proofs.Try.func46, rfl, by kernel_rfl, Go.Proofs.Try.ntmps46, by kernel_rfl, ⟨fun f => imp.contains f, false⟩, by kernel_rfl⟩⟩

def c47 : C :=
  (.seq (.reg [⟨(some 3), none, .box (t 1)⟩, ⟨(some 4), none, .mv (k (.int .i64 0))⟩, ⟨(some 5), none, .mv (k (.int .i64 0))⟩])
  (.seq (.seq (.reg [⟨(some 8), none, .faddr 0 (t 3)⟩, ⟨(some 9), none, .load false 1 (t 8)⟩])
  (.block 0
  (.seq (.reg [⟨(some 11), none, .bin .eql (t 9) (k (.str [118, 97, 108, 117, 101]))⟩, ⟨(some 10), none, .mv (t 11)⟩])
  (.cond (t 10)
  (.seq (.seq (.reg [⟨(some 12), none, .faddr 1 (t 3)⟩, ⟨(some 13), none, .load true 4 (t 12)⟩, ⟨(some 14), none, .pcall (k (.fn 67 [] [])) [(t 13)]⟩, ⟨(some 6), none, .mv (t 14)⟩])
  (.seq (.reg [⟨(some 15), none, .mv (t 6)⟩, ⟨(some 16), none, .bin .neq (t 15) (k (.int .i64 0))⟩])
  (.cond (t 16)
  (.seq (.reg [⟨(some 17), none, .mv (t 6)⟩, ⟨(some 4), none, .mv (t 17)⟩, ⟨(some 5), none, .mv (k (.int .i64 0))⟩])
  .ret)
  .skip)))
  (.seq (.reg [⟨(some 4), none, .mv (k (.int .i64 0))⟩, ⟨(some 5), none, .mv (k (.int .i64 2))⟩])
  .ret))
  (.seq (.reg [⟨(some 19), none, .bin .eql (t 9) (k (.str [110, 111, 119]))⟩, ⟨(some 18), none, .mv (t 19)⟩])
  (.cond (t 18)
  (.seq (.reg [⟨(some 4), none, .mv (k (.int .i64 4))⟩, ⟨(some 5), none, .mv (k (.int .i64 0))⟩])
  .ret)
  (.seq (.reg [⟨(some 21), none, .bin .eql (t 9) (k (.str [114, 111, 108, 101]))⟩, ⟨(some 20), none, .mv (t 21)⟩])
  (.cond (t 20)
  (.seq (.reg [⟨(some 4), none, .mv (k (.int .i64 1))⟩, ⟨(some 5), none, .mv (k (.int .i64 0))⟩])
  .ret)
  .skip))))))))
  (.seq (.reg [⟨(some 22), none, .mv (t 0)⟩, ⟨(some 23), none, .faddr 5 (t 3)⟩, ⟨(some 24), none, .load false 1 (t 23)⟩, ⟨(some 25), none, .faddr 6 (t 3)⟩, ⟨(some 26), none, .load false 1 (t 25)⟩, ⟨(some 27), none, .pcall (k (.fn 68 [] [])) [(t 22), (t 24), (t 26)]⟩, ⟨(some 7), none, .mv (t 27)⟩])
  (.seq (.seq (.reg [⟨(some 28), none, .mv (t 7)⟩, ⟨(some 29), none, .bin .eql (t 28) (k (.int .i64 0))⟩])
  (.cond (t 29)
  (.seq (.reg [⟨(some 4), none, .mv (k (.int .i64 0))⟩, ⟨(some 5), none, .mv (k (.int .i64 8))⟩])
  .ret)
  .skip))
  (.seq (.seq (.reg [⟨(some 30), none, .faddr 0 (t 3)⟩, ⟨(some 31), none, .load false 1 (t 30)⟩, ⟨(some 32), none, .bin .eql (t 31) (k (.str [104, 97, 115]))⟩])
  (.cond (t 32)
  (.reg [⟨(some 7), none, .mv (k (.int .i64 1))⟩])
  .skip))
  (.seq (.reg [⟨(some 33), none, .mv (t 7)⟩, ⟨(some 4), none, .mv (t 33)⟩, ⟨(some 5), none, .mv (k (.int .i64 0))⟩])
  .ret))))))
theorem fn47 : Fn Go.Proofs.Try.prog 47 34 [.inl 4, .inl 5] c47 :=
  ⟨⟨_, _, Go.Proofs.Try.func47, rfl, by kernel_rfl, Go.Proofs.Try.ntmps47, by kernel_rfl, ⟨fun f => imp.contains f, false⟩, by kernel_rfl⟩⟩

def c50 : C :=
  (.seq (.reg [⟨(some 1), none, .box (t 0)⟩, ⟨(some 2), none, .mv (k (.int .i64 0))⟩])
  (.seq (.seq (.reg [⟨(some 3), none, .faddr 2 (t 1)⟩, ⟨(some 4), none, .load false 1 (t 3)⟩, ⟨(some 5), none, .bin .eql (t 4) (k (.int .i64 0))⟩, ⟨(some 6), none, .mv (t 5)⟩, ⟨(some 7), (some (6, true)), .faddr 3 (t 1)⟩, ⟨(some 8), (some (6, true)), .load false 1 (t 7)⟩, ⟨(some 9), (some (6, true)), .un .not (t 8)⟩, ⟨(some 10), none, .pick (t 6) (t 9) (k (.bool false))⟩])
  (.cond (t 10)
  (.seq (.reg [⟨(some 2), none, .mv (k (.int .i64 8))⟩])
  .ret)
  .skip))
  (.seq (.reg [⟨(some 2), none, .mv (k (.int .i64 0))⟩])
  .ret)))
theorem fn50 : Fn Go.Proofs.Try.prog 50 11 [.inl 2] c50 :=
  ⟨⟨_, _, Go.Proofs.Try.func50, rfl, by kernel_rfl, Go.Proofs.Try.ntmps50, by kernel_rfl, ⟨fun f => imp.contains f, false⟩, by kernel_rfl⟩⟩

def c61 : C :=
  (.seq (.reg [⟨(some 1), none, .box (t 0)⟩, ⟨(some 2), none, .alloc [(.int .i64 0), (.int .u64 0)]⟩])
  (.seq (.reg [⟨(some 3), none, .faddr 0 (t 1)⟩, ⟨(some 4), none, .load false 1 (t 3)⟩, ⟨(some 5), none, .conv .u64 (t 4)⟩, ⟨(some 6), none, .un .xor (t 5)⟩, ⟨(some 7), none, .conv .i64 (t 6)⟩, ⟨(some 8), none, .faddr 1 (t 1)⟩, ⟨(some 9), none, .load false 1 (t 8)⟩, ⟨(some 10), none, .un .xor (t 9)⟩, ⟨(some 11), none, .build [(.int .i64 0), (.int .u64 0)] [(0, 1, (t 7)), (1, 1, (t 10))]⟩, ⟨(some 12), none, .build [(.int .i64 0), (.int .u64 0)] [(1, 1, (k (.int .u64 1)))]⟩, ⟨(some 13), none, .pcall (k (.fn 62 [] [])) [(t 11), (t 12)]⟩, ⟨none, none, .store 2 (t 2) (t 13)⟩])
  .ret))
theorem fn61 : Fn Go.Proofs.Try.prog 61 14 [.inr (2, true, 2)] c61 :=
  ⟨⟨_, _, Go.Proofs.Try.func61, rfl, by kernel_rfl, Go.Proofs.Try.ntmps61, by kernel_rfl, ⟨fun f => imp.contains f, false⟩, by kernel_rfl⟩⟩

def c66 : C :=
  (.seq (.reg [⟨(some 4), none, .box (t 1)⟩, ⟨(some 5), none, .box (t 2)⟩, ⟨(some 6), none, .mv (k (.bool false))⟩, ⟨(some 7), none, .mv (k (.int .i64 0))⟩])
  (.seq (.seq (.reg [⟨(some 9), none, .faddr 0 (t 4)⟩, ⟨(some 10), none, .load false 1 (t 9)⟩, ⟨(some 11), none, .bin .eql (t 10) (k (.int .i64 0))⟩, ⟨(some 12), none, .mv (t 11)⟩, ⟨(some 13), (some (12, false)), .faddr 0 (t 4)⟩, ⟨(some 14), (some (12, false)), .load false 1 (t 13)⟩, ⟨(some 15), (some (12, false)), .faddr 0 (t 5)⟩, ⟨(some 16), (some (12, false)), .load false 1 (t 15)⟩, ⟨(some 17), (some (12, false)), .bin .neq (t 14) (t 16)⟩, ⟨(some 18), none, .pick (t 12) (k (.bool true)) (t 17)⟩])
  (.cond (t 18)
  (.seq (.reg [⟨(some 6), none, .mv (k (.bool false))⟩, ⟨(some 7), none, .mv (k (.int .i64 6))⟩])
  .ret)
  .skip))
  (.seq (.seq (.reg [⟨(some 19), none, .faddr 0 (t 4)⟩, ⟨(some 20), none, .load false 1 (t 19)⟩, ⟨(some 21), none, .bin .eql (t 20) (k (.int .i64 1))⟩, ⟨(some 22), none, .mv (t 21)⟩, ⟨(some 23), (some (22, false)), .faddr 0 (t 4)⟩, ⟨(some 24), (some (22, false)), .load false 1 (t 23)⟩, ⟨(some 25), (some (22, false)), .bin .eql (t 24) (k (.int .i64 5))⟩, ⟨(some 26), none, .pick (t 22) (k (.bool true)) (t 25)⟩, ⟨(some 27), none, .mv (t 26)⟩, ⟨(some 28), (some (27, true)), .mv (t 0)⟩, ⟨(some 29), (some (27, true)), .bin .neq (t 28) (k (.str [61, 61]))⟩, ⟨(some 30), none, .pick (t 27) (t 29) (k (.bool false))⟩, ⟨(some 31), none, .mv (t 30)⟩, ⟨(some 32), (some (31, true)), .mv (t 0)⟩, ⟨(some 33), (some (31, true)), .bin .neq (t 32) (k (.str [33, 61]))⟩, ⟨(some 34), none, .pick (t 31) (t 33) (k (.bool false))⟩])
  (.cond (t 34)
  (.seq (.reg [⟨(some 6), none, .mv (k (.bool false))⟩, ⟨(some 7), none, .mv (k (.int .i64 6))⟩])
  .ret)
  .skip))
  (.seq (.reg [⟨(some 35), none, .load true 4 (t 4)⟩, ⟨(some 36), none, .load true 4 (t 5)⟩, ⟨(some 37), none, .pcall (k (.fn 65 [] [])) [(t 35), (t 36)]⟩, ⟨(some 8), none, .mv (t 37)⟩])
  (.seq (.seq (.reg [⟨(some 38), none, .mv (t 0)⟩])
  (.block 0
  (.seq (.reg [⟨(some 40), none, .bin .eql (t 38) (k (.str [61, 61]))⟩, ⟨(some 39), none, .mv (t 40)⟩])
  (.cond (t 39)
  (.seq (.reg [⟨(some 41), none, .mv (t 8)⟩, ⟨(some 42), none, .bin .eql (t 41) (k (.int .i64 0))⟩, ⟨(some 6), none, .mv (t 42)⟩, ⟨(some 7), none, .mv (k (.int .i64 0))⟩])
  .ret)
  (.seq (.reg [⟨(some 44), none, .bin .eql (t 38) (k (.str [33, 61]))⟩, ⟨(some 43), none, .mv (t 44)⟩])
  (.cond (t 43)
  (.seq (.reg [⟨(some 45), none, .mv (t 8)⟩, ⟨(some 46), none, .bin .neq (t 45) (k (.int .i64 0))⟩, ⟨(some 6), none, .mv (t 46)⟩, ⟨(some 7), none, .mv (k (.int .i64 0))⟩])
  .ret)
  (.seq (.reg [⟨(some 48), none, .bin .eql (t 38) (k (.str [60]))⟩, ⟨(some 47), none, .mv (t 48)⟩])
  (.cond (t 47)
  (.seq (.reg [⟨(some 49), none, .mv (t 8)⟩, ⟨(some 50), none, .bin .eql (t 49) (k (.int .i64 (-1)))⟩, ⟨(some 6), none, .mv (t 50)⟩, ⟨(some 7), none, .mv (k (.int .i64 0))⟩])
  .ret)
  (.seq (.reg [⟨(some 52), none, .bin .eql (t 38) (k (.str [60, 61]))⟩, ⟨(some 51), none, .mv (t 52)⟩])
  (.cond (t 51)
  (.seq (.reg [⟨(some 53), none, .mv (t 8)⟩, ⟨(some 54), none, .bin .neq (t 53) (k (.int .i64 1))⟩, ⟨(some 6), none, .mv (t 54)⟩, ⟨(some 7), none, .mv (k (.int .i64 0))⟩])
  .ret)
  (.seq (.reg [⟨(some 56), none, .bin .eql (t 38) (k (.str [62]))⟩, ⟨(some 55), none, .mv (t 56)⟩])
  (.cond (t 55)
  (.seq (.reg [⟨(some 57), none, .mv (t 8)⟩, ⟨(some 58), none, .bin .eql (t 57) (k (.int .i64 1))⟩, ⟨(some 6), none, .mv (t 58)⟩, ⟨(some 7), none, .mv (k (.int .i64 0))⟩])
  .ret)
  .skip))))))))))))
  (.seq (.reg [⟨(some 59), none, .mv (t 8)⟩, ⟨(some 60), none, .bin .neq (t 59) (k (.int .i64 (-1)))⟩, ⟨(some 6), none, .mv (t 60)⟩, ⟨(some 7), none, .mv (k (.int .i64 0))⟩])
  .ret))))))
theorem fn66 : Fn Go.Proofs.Try.prog 66 61 [.inl 6, .inl 7] c66 :=
  ⟨⟨_, _, Go.Proofs.Try.func66, rfl, by kernel_rfl, Go.Proofs.Try.ntmps66, by kernel_rfl, ⟨fun f => imp.contains f, false⟩, by kernel_rfl⟩⟩

def c68 : C :=
  (.seq (.reg [⟨(some 6), none, .mv (k (.int .i64 0))⟩])
  (.seq (.seq (.reg [⟨(some 9), none, .mv (t 0)⟩, ⟨(some 10), none, .len (t 9)⟩, ⟨(some 11), none, .mv (k (.int .i64 0))⟩])
  (.block 0
  (.loop
  (.seq (.reg [⟨(some 12), none, .bin .lss (t 11) (t 10)⟩])
  (.seq (.cond (t 12)
  .skip
  (.exit 0))
  (.seq (.block 1
  (.seq (.reg [⟨(some 13), none, .iaddr 4 (t 9) (t 11)⟩, ⟨(some 14), none, .load true 4 (t 13)⟩, ⟨(some 8), none, .alloc [(.str []), (.str []), (.int .i64 0), (.bool false)]⟩, ⟨none, none, .store 4 (t 8) (t 14)⟩])
  (.seq (.reg [⟨(some 15), none, .faddr 0 (t 8)⟩, ⟨(some 16), none, .load false 1 (t 15)⟩, ⟨(some 17), none, .mv (t 1)⟩, ⟨(some 18), none, .bin .eql (t 16) (t 17)⟩, ⟨(some 19), none, .mv (t 18)⟩, ⟨(some 20), (some (19, true)), .faddr 1 (t 8)⟩, ⟨(some 21), (some (19, true)), .load false 1 (t 20)⟩, ⟨(some 22), (some (19, true)), .mv (t 2)⟩, ⟨(some 23), (some (19, true)), .bin .eql (t 21) (t 22)⟩, ⟨(some 24), none, .pick (t 19) (t 23) (k (.bool false))⟩])
  (.cond (t 24)
  (.seq (.seq (.reg [⟨(some 25), none, .faddr 3 (t 8)⟩, ⟨(some 26), none, .load false 1 (t 25)⟩])
  (.cond (t 26)
  (.seq (.reg [⟨(some 27), none, .faddr 2 (t 8)⟩, ⟨(some 28), none, .load false 1 (t 27)⟩, ⟨(some 29), none, .bin .add (k (.int .i64 10)) (t 28)⟩, ⟨(some 6), none, .mv (t 29)⟩])
  .ret)
  .skip))
  (.seq (.reg [⟨(some 30), none, .faddr 2 (t 8)⟩, ⟨(some 31), none, .load false 1 (t 30)⟩, ⟨(some 6), none, .mv (t 31)⟩])
  .ret))
  .skip))))
  (.reg [⟨(some 32), none, .bin .add (t 11) (k (.int .i64 1))⟩, ⟨(some 11), none, .mv (t 32)⟩])))))))
  (.seq (.reg [⟨(some 6), none, .mv (k (.int .i64 0))⟩])
  .ret)))
theorem fn68 : Fn Go.Proofs.Try.prog 68 33 [.inl 6] c68 :=
  ⟨⟨_, _, Go.Proofs.Try.func68, rfl, by kernel_rfl, Go.Proofs.Try.ntmps68, by kernel_rfl, ⟨fun f => imp.contains f, false⟩, by kernel_rfl⟩⟩

def c72 : C :=
  (.seq (.reg [⟨(some 2), none, .alloc [(.int .i64 0), (.int .i64 0), (.str []), .nils]⟩])
  (.seq (.seq (.reg [⟨(some 3), none, .mv (t 0)⟩])
  (.cond (t 3)
  (.seq (.reg [⟨(some 4), none, .build [(.int .i64 0), (.int .i64 0), (.str []), .nils] [(0, 1, (k (.int .i64 1))), (1, 1, (k (.int .i64 1)))]⟩, ⟨none, none, .store 4 (t 2) (t 4)⟩])
  .ret)
  .skip))
  (.seq (.reg [⟨(some 5), none, .build [(.int .i64 0), (.int .i64 0), (.str []), .nils] [(0, 1, (k (.int .i64 1)))]⟩, ⟨none, none, .store 4 (t 2) (t 5)⟩])
  .ret)))
theorem fn72 : Fn Go.Proofs.Try.prog 72 6 [.inr (2, true, 4)] c72 :=
  ⟨⟨_, _, Go.Proofs.Try.func72, rfl, by kernel_rfl, Go.Proofs.Try.ntmps72, by kernel_rfl, ⟨fun f => imp.contains f, false⟩, by kernel_rfl⟩⟩

def c77 : C :=
  (.seq (.reg [⟨(some 2), none, .box (t 0)⟩, ⟨(some 3), none, .box (t 1)⟩, ⟨(some 4), none, .alloc [(.int .i64 0), (.int .i64 0), (.str []), .nils]⟩, ⟨(some 5), none, .mv (k (.int .i64 0))⟩])
  (.seq (.seq (.reg [⟨(some 6), none, .load true 4 (t 2)⟩, ⟨(some 7), none, .pcall (k (.fn 40 [] [])) [(t 6)]⟩, ⟨(some 8), none, .un .not (t 7)⟩, ⟨(some 9), none, .mv (t 8)⟩, ⟨(some 10), (some (9, false)), .load true 4 (t 3)⟩, ⟨(some 11), (some (9, false)), .pcall (k (.fn 40 [] [])) [(t 10)]⟩, ⟨(some 12), (some (9, false)), .un .not (t 11)⟩, ⟨(some 13), none, .pick (t 9) (k (.bool true)) (t 12)⟩])
  (.cond (t 13)
  (.seq (.reg [⟨(some 14), none, .build [(.int .i64 0), (.int .i64 0), (.str []), .nils] []⟩, ⟨none, none, .store 4 (t 4) (t 14)⟩, ⟨(some 5), none, .mv (k (.int .i64 1))⟩])
  .ret)
  .skip))
  (.seq (.seq (.reg [⟨(some 15), none, .load true 4 (t 2)⟩, ⟨(some 16), none, .load true 4 (t 3)⟩, ⟨(some 17), none, .pcall (k (.fn 91 [] [])) [(t 15), (t 16)]⟩])
  (.block 0
  (.seq (.reg [⟨(some 19), none, .build [(.int .i64 0), (.int .i64 0)] [(0, 1, (k (.int .i64 2))), (1, 1, (k (.int .i64 2)))]⟩, ⟨(some 20), none, .eqa [.int, .int] false (t 17) (t 19)⟩, ⟨(some 18), none, .mv (t 20)⟩])
  (.cond (t 18)
  (.seq (.reg [⟨(some 21), none, .faddr 1 (t 2)⟩, ⟨(some 22), none, .load false 1 (t 21)⟩, ⟨(some 23), none, .faddr 1 (t 3)⟩, ⟨(some 24), none, .load false 1 (t 23)⟩, ⟨(some 25), none, .pcall (k (.fn 95 [] [])) [(t 22), (t 24)]⟩, ⟨(some 26), none, .ext 0 (t 25)⟩, ⟨(some 27), none, .ext 1 (t 25)⟩, ⟨(some 28), none, .pcall (k (.fn 92 [] [])) [(t 26), (t 27)]⟩, ⟨(some 29), none, .ext 0 (t 28)⟩, ⟨(some 30), none, .ext 1 (t 28)⟩, ⟨none, none, .store 4 (t 4) (t 29)⟩, ⟨(some 5), none, .mv (t 30)⟩])
  .ret)
  (.seq (.reg [⟨(some 32), none, .build [(.int .i64 0), (.int .i64 0)] [(0, 1, (k (.int .i64 4))), (1, 1, (k (.int .i64 2)))]⟩, ⟨(some 33), none, .eqa [.int, .int] false (t 17) (t 32)⟩, ⟨(some 31), none, .mv (t 33)⟩])
  (.cond (t 31)
  (.seq (.reg [⟨(some 34), none, .faddr 1 (t 2)⟩, ⟨(some 35), none, .load false 1 (t 34)⟩, ⟨(some 36), none, .faddr 1 (t 3)⟩, ⟨(some 37), none, .load false 1 (t 36)⟩, ⟨(some 38), none, .pcall (k (.fn 95 [] [])) [(t 35), (t 37)]⟩, ⟨(some 39), none, .ext 0 (t 38)⟩, ⟨(some 40), none, .ext 1 (t 38)⟩, ⟨(some 41), none, .pcall (k (.fn 94 [] [])) [(t 39), (t 40)]⟩, ⟨(some 42), none, .ext 0 (t 41)⟩, ⟨(some 43), none, .ext 1 (t 41)⟩, ⟨none, none, .store 4 (t 4) (t 42)⟩, ⟨(some 5), none, .mv (t 43)⟩])
  .ret)
  .skip))))))
  (.seq (.reg [⟨(some 44), none, .build [(.int .i64 0), (.int .i64 0), (.str []), .nils] []⟩, ⟨none, none, .store 4 (t 4) (t 44)⟩, ⟨(some 5), none, .mv (k (.int .i64 6))⟩])
  .ret))))
theorem fn77 : Fn Go.Proofs.Try.prog 77 45 [.inr (4, true, 4), .inl 5] c77 :=
  ⟨⟨_, _, Go.Proofs.Try.func77, rfl, by kernel_rfl, Go.Proofs.Try.ntmps77, by kernel_rfl, ⟨fun f => imp.contains f, false⟩, by kernel_rfl⟩⟩

def c82 : C :=
  (.seq (.reg [⟨(some 2), none, .mv (k (.int .i64 0))⟩])
  (.seq (.reg [⟨(some 3), none, .mv (k (.int .i64 0))⟩])
  (.seq (.seq (.reg [⟨(some 6), none, .mv (t 0)⟩, ⟨(some 7), none, .len (t 6)⟩, ⟨(some 8), none, .mv (k (.int .i64 0))⟩])
  (.block 0
  (.loop
  (.seq (.reg [⟨(some 9), none, .bin .lss (t 8) (t 7)⟩])
  (.seq (.cond (t 9)
  .skip
  (.exit 0))
  (.seq (.block 1
  (.seq (.reg [⟨(some 10), none, .iaddr 1 (t 6) (t 8)⟩, ⟨(some 11), none, .load false 1 (t 10)⟩, ⟨(some 5), none, .mv (t 11)⟩])
  (.seq (.reg [⟨(some 12), none, .mv (t 5)⟩, ⟨(some 13), none, .mv (t 3)⟩, ⟨(some 14), none, .bin .neq (t 12) (t 13)⟩])
  (.cond (t 14)
  (.seq (.reg [⟨(some 15), none, .mv (t 5)⟩, ⟨(some 2), none, .mv (t 15)⟩])
  .ret)
  .skip))))
  (.reg [⟨(some 16), none, .bin .add (t 8) (k (.int .i64 1))⟩, ⟨(some 8), none, .mv (t 16)⟩])))))))
  (.seq (.reg [⟨(some 17), none, .mv (t 3)⟩, ⟨(some 2), none, .mv (t 17)⟩])
  .ret))))
theorem fn82 : Fn Go.Proofs.Try.prog 82 18 [.inl 2] c82 :=
  ⟨⟨_, _, Go.Proofs.Try.func82, rfl, by kernel_rfl, Go.Proofs.Try.ntmps82, by kernel_rfl, ⟨fun f => imp.contains f, false⟩, by kernel_rfl⟩⟩

def c84 : C :=
  (.seq (.reg [⟨(some 4), none, .mv (k (.int .i64 0))⟩])
  (.seq (.reg [⟨(some 7), none, .mv (t 0)⟩, ⟨(some 8), none, .pcall (k (.fn 100 [] [])) [(t 7)]⟩, ⟨(some 5), none, .mv (t 8)⟩])
  (.seq (.reg [⟨(some 9), none, .mv (t 1)⟩, ⟨(some 10), none, .pcall (k (.fn 100 [] [])) [(t 9)]⟩, ⟨(some 6), none, .mv (t 10)⟩])
  (.seq (.seq (.reg [⟨(some 11), none, .mv (t 5)⟩])
  (.cond (t 11)
  (.seq (.seq (.reg [⟨(some 12), none, .mv (t 6)⟩])
  (.cond (t 12)
  (.seq (.reg [⟨(some 4), none, .mv (k (.int .i64 0))⟩])
  .ret)
  .skip))
  (.seq (.reg [⟨(some 4), none, .mv (k (.int .i64 (-1)))⟩])
  .ret))
  .skip))
  (.seq (.seq (.reg [⟨(some 13), none, .mv (t 6)⟩])
  (.cond (t 13)
  (.seq (.reg [⟨(some 4), none, .mv (k (.int .i64 1))⟩])
  .ret)
  .skip))
  (.seq (.seq (.reg [⟨(some 14), none, .mv (t 0)⟩, ⟨(some 15), none, .mv (t 1)⟩, ⟨(some 16), none, .bin .lss (t 14) (t 15)⟩])
  (.cond (t 16)
  (.seq (.reg [⟨(some 4), none, .mv (k (.int .i64 (-1)))⟩])
  .ret)
  .skip))
  (.seq (.seq (.reg [⟨(some 17), none, .mv (t 0)⟩, ⟨(some 18), none, .mv (t 1)⟩, ⟨(some 19), none, .bin .gtr (t 17) (t 18)⟩])
  (.cond (t 19)
  (.seq (.reg [⟨(some 4), none, .mv (k (.int .i64 1))⟩])
  .ret)
  .skip))
  (.seq (.reg [⟨(some 4), none, .mv (k (.int .i64 0))⟩])
  .ret))))))))
theorem fn84 : Fn Go.Proofs.Try.prog 84 20 [.inl 4] c84 :=
  ⟨⟨_, _, Go.Proofs.Try.func84, rfl, by kernel_rfl, Go.Proofs.Try.ntmps84, by kernel_rfl, ⟨fun f => imp.contains f, false⟩, by kernel_rfl⟩⟩

def c94 : C :=
  (.seq (.reg [⟨(some 4), none, .alloc [(.int .i64 0), (.int .i64 0), (.str []), .nils]⟩, ⟨(some 5), none, .mv (k (.int .i64 0))⟩])
  (.seq (.seq (.reg [⟨(some 6), none, .mv (t 1)⟩, ⟨(some 7), none, .un .not (t 6)⟩, ⟨(some 8), none, .mv (t 7)⟩, ⟨(some 9), (some (8, false)), .mv (t 0)⟩, ⟨(some 10), (some (8, false)), .bin .lss (t 9) (k (.int .i64 0))⟩, ⟨(some 11), none, .pick (t 8) (k (.bool true)) (t 10)⟩, ⟨(some 12), none, .mv (t 11)⟩, ⟨(some 13), (some (12, false)), .mv (t 0)⟩, ⟨(some 14), (some (12, false)), .bin .gtr (t 13) (k (.int .i64 1099511627776))⟩, ⟨(some 15), none, .pick (t 12) (k (.bool true)) (t 14)⟩])
  (.cond (t 15)
  (.seq (.reg [⟨(some 16), none, .build [(.int .i64 0), (.int .i64 0), (.str []), .nils] []⟩, ⟨none, none, .store 4 (t 4) (t 16)⟩, ⟨(some 5), none, .mv (k (.int .i64 7))⟩])
  .ret)
  .skip))
  (.seq (.reg [⟨(some 17), none, .mv (t 0)⟩, ⟨(some 18), none, .build [(.int .i64 0), (.int .i64 0), (.str []), .nils] [(0, 1, (k (.int .i64 4))), (1, 1, (t 17))]⟩, ⟨none, none, .store 4 (t 4) (t 18)⟩, ⟨(some 5), none, .mv (k (.int .i64 0))⟩])
  .ret)))
theorem fn94 : Fn Go.Proofs.Try.prog 94 19 [.inr (4, true, 4), .inl 5] c94 :=
  ⟨⟨_, _, Go.Proofs.Try.func94, rfl, by kernel_rfl, Go.Proofs.Try.ntmps94, by kernel_rfl, ⟨fun f => imp.contains f, false⟩, by kernel_rfl⟩⟩

def c96 : C :=
  (.seq (.reg [⟨(some 4), none, .mv (k (.int .i64 0))⟩, ⟨(some 5), none, .mv (k (.bool false))⟩])
  (.seq (.reg [⟨(some 9), none, .mv (t 0)⟩, ⟨(some 10), none, .pcall (k (.fn 103 [] [])) [(t 9)]⟩, ⟨(some 11), none, .mv (t 1)⟩, ⟨(some 12), none, .pcall (k (.fn 103 [] [])) [(t 11)]⟩, ⟨(some 13), none, .pcall (k (.fn 102 [] [])) [(t 10), (t 12)]⟩, ⟨(some 8), none, .mv (t 13)⟩, ⟨(some 14), none, .ext 0 (t 8)⟩, ⟨(some 15), none, .ext 1 (t 8)⟩, ⟨(some 6), none, .mv (t 14)⟩, ⟨(some 7), none, .mv (t 15)⟩])
  (.seq (.seq (.reg [⟨(some 16), none, .mv (t 0)⟩, ⟨(some 17), none, .bin .lss (t 16) (k (.int .i64 0))⟩, ⟨(some 18), none, .mv (t 1)⟩, ⟨(some 19), none, .bin .lss (t 18) (k (.int .i64 0))⟩, ⟨(some 20), none, .eq1 .bool true (t 17) (t 19)⟩])
  (.cond (t 20)
  (.seq (.reg [⟨(some 21), none, .mv (t 7)⟩, ⟨(some 22), none, .conv .i64 (t 21)⟩, ⟨(some 23), none, .un .neg (t 22)⟩, ⟨(some 24), none, .mv (t 6)⟩, ⟨(some 25), none, .bin .eql (t 24) (k (.int .u64 0))⟩, ⟨(some 26), none, .mv (t 25)⟩, ⟨(some 27), (some (26, true)), .mv (t 7)⟩, ⟨(some 28), (some (26, true)), .bin .leq (t 27) (k (.int .u64 9223372036854775808))⟩, ⟨(some 29), none, .pick (t 26) (t 28) (k (.bool false))⟩, ⟨(some 4), none, .mv (t 23)⟩, ⟨(some 5), none, .mv (t 29)⟩])
  .ret)
  .skip))
  (.seq (.reg [⟨(some 30), none, .mv (t 7)⟩, ⟨(some 31), none, .conv .i64 (t 30)⟩, ⟨(some 32), none, .mv (t 6)⟩, ⟨(some 33), none, .bin .eql (t 32) (k (.int .u64 0))⟩, ⟨(some 34), none, .mv (t 33)⟩, ⟨(some 35), (some (34, true)), .mv (t 7)⟩, ⟨(some 36), (some (34, true)), .bin .lss (t 35) (k (.int .u64 9223372036854775808))⟩, ⟨(some 37), none, .pick (t 34) (t 36) (k (.bool false))⟩, ⟨(some 4), none, .mv (t 31)⟩, ⟨(some 5), none, .mv (t 37)⟩])
  .ret))))
theorem fn96 : Fn Go.Proofs.Try.prog 96 38 [.inl 4, .inl 5] c96 :=
  ⟨⟨_, _, Go.Proofs.Try.func96, rfl, by kernel_rfl, Go.Proofs.Try.ntmps96, by kernel_rfl, ⟨fun f => imp.contains f, false⟩, by kernel_rfl⟩⟩

def c103 : C :=
  (.seq (.reg [⟨(some 2), none, .mv (k (.int .u64 0))⟩])
  (.seq (.seq (.reg [⟨(some 3), none, .mv (t 0)⟩, ⟨(some 4), none, .bin .lss (t 3) (k (.int .i64 0))⟩])
  (.cond (t 4)
  (.seq (.reg [⟨(some 5), none, .mv (t 0)⟩, ⟨(some 6), none, .conv .u64 (t 5)⟩, ⟨(some 7), none, .un .neg (t 6)⟩, ⟨(some 2), none, .mv (t 7)⟩])
  .ret)
  .skip))
  (.seq (.reg [⟨(some 8), none, .mv (t 0)⟩, ⟨(some 9), none, .conv .u64 (t 8)⟩, ⟨(some 2), none, .mv (t 9)⟩])
  .ret)))
theorem fn103 : Fn Go.Proofs.Try.prog 103 10 [.inl 2] c103 :=
  ⟨⟨_, _, Go.Proofs.Try.func103, rfl, by kernel_rfl, Go.Proofs.Try.ntmps103, by kernel_rfl, ⟨fun f => imp.contains f, false⟩, by kernel_rfl⟩⟩

end GP
namespace GP
open Go Go.Proofs
open Rd O
set_option maxRecDepth 100000
def c5 : C :=
  (.seq (.reg [⟨(some 3), none, .box (t 0)⟩, ⟨(some 4), none, .box (t 1)⟩, ⟨(some 5), none, .box (t 2)⟩, ⟨(some 6), none, .mv (k (.bool false))⟩])
  (.seq (.seq (.reg [⟨(some 12), none, .pcall (k (.fn 11 [] [])) []⟩, ⟨(some 13), none, .un .not (t 12)⟩, ⟨(some 14), none, .mv (t 13)⟩, ⟨(some 15), (some (14, false)), .load true 8 (t 3)⟩, ⟨(some 16), (some (14, false)), .pcall (k (.fn 12 [] [])) [(t 15)]⟩, ⟨(some 17), (some (14, false)), .un .not (t 16)⟩, ⟨(some 18), none, .pick (t 14) (k (.bool true)) (t 17)⟩, ⟨(some 19), none, .mv (t 18)⟩, ⟨(some 20), (some (19, false)), .load true 3 (t 4)⟩, ⟨(some 21), (some (19, false)), .pcall (k (.fn 13 [] [])) [(t 20)]⟩, ⟨(some 22), (some (19, false)), .un .not (t 21)⟩, ⟨(some 23), none, .pick (t 19) (k (.bool true)) (t 22)⟩, ⟨(some 24), none, .mv (t 23)⟩, ⟨(some 25), (some (24, false)), .faddr 2 (t 4)⟩, ⟨(some 26), (some (24, false)), .load false 1 (t 25)⟩, ⟨(some 27), (some (24, false)), .len (t 26)⟩, ⟨(some 28), (some (24, false)), .bin .gtr (t 27) (k (.int .i64 19))⟩, ⟨(some 29), none, .pick (t 24) (k (.bool true)) (t 28)⟩, ⟨(some 30), none, .mv (t 29)⟩, ⟨(some 31), (some (30, false)), .load true 4 (t 5)⟩, ⟨(some 32), (some (30, false)), .bsl 4 [(t 31)]⟩, ⟨(some 33), (some (30, false)), .pcall (k (.fn 19 [] [])) [(t 32), (k (.int .i64 1))]⟩, ⟨(some 34), (some (30, false)), .un .not (t 33)⟩, ⟨(some 35), none, .pick (t 30) (k (.bool true)) (t 34)⟩, ⟨(some 36), none, .mv (t 35)⟩, ⟨(some 37), (some (36, false)), .load true 4 (t 5)⟩, ⟨(some 38), (some (36, false)), .pcall (k (.fn 18 [] [])) [(t 37)]⟩, ⟨(some 39), (some (36, false)), .un .not (t 38)⟩, ⟨(some 40), none, .pick (t 36) (k (.bool true)) (t 39)⟩, ⟨(some 41), none, .mv (t 40)⟩, ⟨(some 42), (some (41, false)), .faddr 0 (t 5)⟩, ⟨(some 43), (some (41, false)), .load false 1 (t 42)⟩, ⟨(some 44), (some (41, false)), .bin .eql (t 43) (k (.int .i64 0))⟩, ⟨(some 45), none, .pick (t 41) (k (.bool true)) (t 44)⟩])
  (.cond (t 45)
  (.seq (.reg [⟨(some 46), none, .pcall (k (.fn 11 [] [])) []⟩, ⟨(some 6), none, .mv (t 46)⟩])
  .ret)
  .skip))
  (.seq (.reg [⟨(some 48), none, .load true 8 (t 3)⟩, ⟨(some 49), none, .load true 3 (t 4)⟩, ⟨(some 50), none, .pcall (k (.fn 17 [] [])) [(t 48), (t 49)]⟩, ⟨(some 47), none, .mv (t 50)⟩, ⟨(some 51), none, .ext 0 (t 47)⟩, ⟨(some 52), none, .ext 1 (t 47)⟩, ⟨(some 7), none, .alloc [(.int .i64 0), (.int .i64 0), (.str []), .nils]⟩, ⟨none, none, .store 4 (t 7) (t 51)⟩, ⟨(some 8), none, .mv (t 52)⟩])
  (.seq (.reg [⟨(some 53), none, .load true 3 (t 4)⟩, ⟨(some 9), none, .alloc [(.int .i64 0), .nils, .nils]⟩, ⟨none, none, .store 3 (t 9) (t 53)⟩])
  (.seq (.draw 0 [(⟨(some 54), none, .bslq 6 []⟩, []), (⟨(some 55), none, .faddr 2 (t 4)⟩, []), (⟨(some 56), none, .load false 1 (t 55)⟩, []), (⟨(some 58), none, .load true 4 (t 5)⟩, []), (⟨(some 59), none, .build [(.str []), (.str []), (.int .i64 0), (.int .i64 0), (.str []), .nils] [(0, 1, (k (.str [110, 111, 98, 111, 100, 121]))), (1, 1, (k (.str [65]))), (2, 4, (t 58))]⟩, []), (⟨(some 60), none, .bslq 6 [(t 59)]⟩, []), (⟨(some 57), none, .app false 6 88 (t 54) (t 56)⟩, []), (⟨(some 61), none, .app false 6 88 (t 57) (t 60)⟩, []), (⟨(some 62), none, .faddr 2 (t 9)⟩, []), (⟨none, none, .store 1 (t 62) (t 61)⟩, [])])
  (.seq (.seq (.reg [⟨(some 63), none, .load true 8 (t 3)⟩, ⟨(some 64), none, .pcall (k (.fn 20 [] [])) [(t 63)]⟩])
  (.cond (t 64)
  (.seq (.reg [⟨(some 6), none, .mv (k (.bool true))⟩])
  .ret)
  .skip))
  (.seq (.reg [⟨(some 66), none, .load true 8 (t 3)⟩, ⟨(some 67), none, .load true 3 (t 9)⟩, ⟨(some 68), none, .pcall (k (.fn 17 [] [])) [(t 66), (t 67)]⟩, ⟨(some 65), none, .mv (t 68)⟩, ⟨(some 69), none, .ext 0 (t 65)⟩, ⟨(some 70), none, .ext 1 (t 65)⟩, ⟨(some 10), none, .alloc [(.int .i64 0), (.int .i64 0), (.str []), .nils]⟩, ⟨none, none, .store 4 (t 10) (t 69)⟩, ⟨(some 11), none, .mv (t 70)⟩])
  (.seq (.reg [⟨(some 71), none, .mv (t 8)⟩, ⟨(some 72), none, .mv (t 11)⟩, ⟨(some 73), none, .bin .eql (t 71) (t 72)⟩, ⟨(some 74), none, .mv (t 73)⟩, ⟨(some 75), (some (74, true)), .load true 4 (t 7)⟩, ⟨(some 76), (some (74, true)), .load true 4 (t 10)⟩, ⟨(some 77), (some (74, true)), .pcall (k (.fn 21 [] [])) [(t 75), (t 76)]⟩, ⟨(some 78), none, .pick (t 74) (t 77) (k (.bool false))⟩, ⟨(some 6), none, .mv (t 78)⟩])
  .ret))))))))
theorem fn5 : Fn Go.Proofs.Try.prog 5 79 [.inl 6] c5 :=
  ⟨⟨_, _, Go.Proofs.Try.func5, rfl, by kernel_rfl, Go.Proofs.Try.ntmps5, by kernel_rfl, ⟨fun f => imp.contains f, false⟩, by kernel_rfl⟩⟩

def c6 : C :=
  (.seq (.reg [⟨(some 2), none, .box (t 0)⟩, ⟨(some 3), none, .box (t 1)⟩, ⟨(some 4), none, .mv (k (.bool false))⟩])
  (.seq (.seq (.reg [⟨(some 11), none, .pcall (k (.fn 11 [] [])) []⟩, ⟨(some 12), none, .un .not (t 11)⟩, ⟨(some 13), none, .mv (t 12)⟩, ⟨(some 14), (some (13, false)), .load true 8 (t 2)⟩, ⟨(some 15), (some (13, false)), .pcall (k (.fn 12 [] [])) [(t 14)]⟩, ⟨(some 16), (some (13, false)), .un .not (t 15)⟩, ⟨(some 17), none, .pick (t 13) (k (.bool true)) (t 16)⟩, ⟨(some 18), none, .mv (t 17)⟩, ⟨(some 19), (some (18, false)), .load true 3 (t 3)⟩, ⟨(some 20), (some (18, false)), .pcall (k (.fn 13 [] [])) [(t 19)]⟩, ⟨(some 21), (some (18, false)), .un .not (t 20)⟩, ⟨(some 22), none, .pick (t 18) (k (.bool true)) (t 21)⟩])
  (.cond (t 22)
  (.seq (.reg [⟨(some 23), none, .pcall (k (.fn 11 [] [])) []⟩, ⟨(some 4), none, .mv (t 23)⟩])
  .ret)
  .skip))
  (.seq (.reg [⟨(some 25), none, .load true 8 (t 2)⟩, ⟨(some 26), none, .load true 3 (t 3)⟩, ⟨(some 27), none, .pcall (k (.fn 17 [] [])) [(t 25), (t 26)]⟩, ⟨(some 24), none, .mv (t 27)⟩, ⟨(some 28), none, .ext 0 (t 24)⟩, ⟨(some 29), none, .ext 1 (t 24)⟩, ⟨(some 5), none, .alloc [(.int .i64 0), (.int .i64 0), (.str []), .nils]⟩, ⟨none, none, .store 4 (t 5) (t 28)⟩, ⟨(some 6), none, .mv (t 29)⟩])
  (.seq (.reg [⟨(some 31), none, .load true 8 (t 2)⟩, ⟨(some 32), none, .load true 3 (t 3)⟩, ⟨(some 33), none, .pcall (k (.fn 22 [] [])) [(t 31), (t 32)]⟩, ⟨(some 30), none, .mv (t 33)⟩, ⟨(some 34), none, .ext 0 (t 30)⟩, ⟨(some 35), none, .ext 1 (t 30)⟩, ⟨(some 7), none, .mv (t 34)⟩, ⟨(some 8), none, .mv (t 35)⟩])
  (.seq (.seq (.draw 0 [(⟨(some 36), none, .load true 3 (t 3)⟩, []), (⟨(some 37), none, .pcall (k (.fn 23 [] [])) [(t 36)]⟩, []), (⟨(some 38), none, .load true 3 (t 3)⟩, []), (⟨(some 39), none, .pcall (k (.fn 24 [] [])) [(t 38)]⟩, []), (⟨(some 40), none, .eq1 .bool true (t 37) (t 39)⟩, [])])
  (.cond (t 40)
  (.seq (.reg [⟨(some 4), none, .mv (k (.bool false))⟩])
  .ret)
  .skip))
  (.seq (.seq (.reg [⟨(some 41), none, .load true 3 (t 3)⟩, ⟨(some 42), none, .pcall (k (.fn 24 [] [])) [(t 41)]⟩, ⟨(some 43), none, .un .not (t 42)⟩])
  (.cond (t 43)
  (.seq (.reg [⟨(some 44), none, .mv (t 6)⟩, ⟨(some 45), none, .bin .eql (t 44) (k (.int .i64 1))⟩, ⟨(some 46), none, .mv (t 45)⟩, ⟨(some 47), (some (46, true)), .mv (t 8)⟩, ⟨(some 48), (some (46, true)), .bin .eql (t 47) (k (.int .i64 1))⟩, ⟨(some 49), none, .pick (t 46) (t 48) (k (.bool false))⟩, ⟨(some 50), none, .mv (t 49)⟩, ⟨(some 51), (some (50, true)), .mv (t 7)⟩, ⟨(some 52), (some (50, true)), .un .not (t 51)⟩, ⟨(some 53), none, .pick (t 50) (t 52) (k (.bool false))⟩, ⟨(some 54), none, .mv (t 53)⟩, ⟨(some 55), (some (54, true)), .load true 4 (t 5)⟩, ⟨(some 56), (some (54, true)), .build [(.int .i64 0), (.int .i64 0), (.str []), .nils] []⟩, ⟨(some 57), (some (54, true)), .pcall (k (.fn 21 [] [])) [(t 55), (t 56)]⟩, ⟨(some 58), none, .pick (t 54) (t 57) (k (.bool false))⟩, ⟨(some 4), none, .mv (t 58)⟩])
  .ret)
  .skip))
  (.seq (.seq (.reg [⟨(some 59), none, .load true 8 (t 2)⟩, ⟨(some 60), none, .pcall (k (.fn 25 [] [])) [(t 59)]⟩, ⟨(some 61), none, .un .not (t 60)⟩])
  (.cond (t 61)
  (.seq (.reg [⟨(some 62), none, .mv (t 6)⟩, ⟨(some 63), none, .bin .eql (t 62) (k (.int .i64 2))⟩, ⟨(some 64), none, .mv (t 63)⟩, ⟨(some 65), (some (64, true)), .mv (t 8)⟩, ⟨(some 66), (some (64, true)), .bin .eql (t 65) (k (.int .i64 2))⟩, ⟨(some 67), none, .pick (t 64) (t 66) (k (.bool false))⟩, ⟨(some 68), none, .mv (t 67)⟩, ⟨(some 69), (some (68, true)), .mv (t 7)⟩, ⟨(some 70), (some (68, true)), .un .not (t 69)⟩, ⟨(some 71), none, .pick (t 68) (t 70) (k (.bool false))⟩, ⟨(some 72), none, .mv (t 71)⟩, ⟨(some 73), (some (72, true)), .load true 4 (t 5)⟩, ⟨(some 74), (some (72, true)), .build [(.int .i64 0), (.int .i64 0), (.str []), .nils] []⟩, ⟨(some 75), (some (72, true)), .pcall (k (.fn 21 [] [])) [(t 73), (t 74)]⟩, ⟨(some 76), none, .pick (t 72) (t 75) (k (.bool false))⟩, ⟨(some 4), none, .mv (t 76)⟩])
  .ret)
  .skip))
  (.seq (.reg [⟨(some 78), none, .load true 8 (t 2)⟩, ⟨(some 79), none, .load true 3 (t 3)⟩, ⟨(some 80), none, .pcall (k (.fn 26 [] [])) [(t 78), (t 79)]⟩, ⟨(some 77), none, .mv (t 80)⟩, ⟨(some 81), none, .ext 0 (t 77)⟩, ⟨(some 82), none, .ext 1 (t 77)⟩, ⟨(some 9), none, .alloc [(.int .i64 0), (.int .i64 0), (.str []), .nils]⟩, ⟨none, none, .store 4 (t 9) (t 81)⟩, ⟨(some 10), none, .mv (t 82)⟩])
  (.seq (.seq (.reg [⟨(some 83), none, .mv (t 6)⟩, ⟨(some 84), none, .mv (t 10)⟩, ⟨(some 85), none, .bin .neq (t 83) (t 84)⟩, ⟨(some 86), none, .mv (t 85)⟩, ⟨(some 87), (some (86, false)), .load true 4 (t 5)⟩, ⟨(some 88), (some (86, false)), .load true 4 (t 9)⟩, ⟨(some 89), (some (86, false)), .pcall (k (.fn 21 [] [])) [(t 87), (t 88)]⟩, ⟨(some 90), (some (86, false)), .un .not (t 89)⟩, ⟨(some 91), none, .pick (t 86) (k (.bool true)) (t 90)⟩])
  (.cond (t 91)
  (.seq (.reg [⟨(some 4), none, .mv (k (.bool false))⟩])
  .ret)
  .skip))
  (.seq (.seq (.reg [⟨(some 92), none, .mv (t 10)⟩, ⟨(some 93), none, .bin .eql (t 92) (k (.int .i64 0))⟩, ⟨(some 94), none, .mv (t 93)⟩, ⟨(some 95), (some (94, true)), .faddr 0 (t 9)⟩, ⟨(some 96), (some (94, true)), .load false 1 (t 95)⟩, ⟨(some 97), (some (94, true)), .bin .neq (t 96) (k (.int .i64 1))⟩, ⟨(some 98), none, .pick (t 94) (t 97) (k (.bool false))⟩])
  (.cond (t 98)
  (.seq (.reg [⟨(some 99), none, .mv (t 8)⟩, ⟨(some 100), none, .bin .eql (t 99) (k (.int .i64 6))⟩, ⟨(some 101), none, .mv (t 100)⟩, ⟨(some 102), (some (101, true)), .mv (t 7)⟩, ⟨(some 103), (some (101, true)), .un .not (t 102)⟩, ⟨(some 104), none, .pick (t 101) (t 103) (k (.bool false))⟩, ⟨(some 4), none, .mv (t 104)⟩])
  .ret)
  .skip))
  (.seq (.reg [⟨(some 105), none, .mv (t 8)⟩, ⟨(some 106), none, .mv (t 10)⟩, ⟨(some 107), none, .bin .eql (t 105) (t 106)⟩, ⟨(some 108), none, .mv (t 107)⟩, ⟨(some 109), (some (108, true)), .mv (t 7)⟩, ⟨(some 110), (some (108, true)), .mv (t 10)⟩, ⟨(some 111), (some (108, true)), .bin .eql (t 110) (k (.int .i64 0))⟩, ⟨(some 112), (some (108, true)), .mv (t 111)⟩, ⟨(some 113), (some (112, true)), .faddr 1 (t 9)⟩, ⟨(some 114), (some (112, true)), .load false 1 (t 113)⟩, ⟨(some 115), (some (112, true)), .bin .eql (t 114) (k (.int .i64 1))⟩, ⟨(some 116), (some (108, true)), .pick (t 112) (t 115) (k (.bool false))⟩, ⟨(some 117), (some (108, true)), .eq1 .bool false (t 109) (t 116)⟩, ⟨(some 118), none, .pick (t 108) (t 117) (k (.bool false))⟩, ⟨(some 4), none, .mv (t 118)⟩])
  .ret)))))))))))
theorem fn6 : Fn Go.Proofs.Try.prog 6 119 [.inl 4] c6 :=
  ⟨⟨_, _, Go.Proofs.Try.func6, rfl, by kernel_rfl, Go.Proofs.Try.ntmps6, by kernel_rfl, ⟨fun f => imp.contains f, false⟩, by kernel_rfl⟩⟩

def c10 : C :=
  (.seq (.reg [⟨(some 0), none, .mv (k (.bool false))⟩])
  (.seq (.reg [⟨(some 4), none, .build [(.str []), (.int .i64 0), (.int .i64 0), (.str []), .nils, (.str []), (.str []), .nils] [(0, 1, (k (.str [110, 111, 119])))]⟩, ⟨(some 5), none, .pcall (k (.fn 30 [] [])) [(k .nils), (t 4)]⟩, ⟨(some 3), none, .mv (t 5)⟩, ⟨(some 6), none, .ext 0 (t 3)⟩, ⟨(some 7), none, .ext 1 (t 3)⟩, ⟨(some 1), none, .mv (t 6)⟩, ⟨(some 2), none, .mv (t 7)⟩])
  (.seq (.reg [⟨(some 8), none, .mv (t 2)⟩, ⟨(some 9), none, .bin .eql (t 8) (k (.int .i64 0))⟩, ⟨(some 10), none, .mv (t 9)⟩, ⟨(some 11), (some (10, true)), .mv (t 1)⟩, ⟨(some 12), (some (10, true)), .bin .eql (t 11) (k (.int .i64 4))⟩, ⟨(some 13), none, .pick (t 10) (t 12) (k (.bool false))⟩, ⟨(some 14), none, .mv (t 13)⟩, ⟨(some 15), (some (14, true)), .pcall (k (.fn 8 [] [])) []⟩, ⟨(some 16), (some (14, true)), .len (t 15)⟩, ⟨(some 17), (some (14, true)), .bin .eql (t 16) (k (.int .i64 6))⟩, ⟨(some 18), none, .pick (t 14) (t 17) (k (.bool false))⟩, ⟨(some 0), none, .mv (t 18)⟩])
  .ret)))
theorem fn10 : Fn Go.Proofs.Try.prog 10 19 [.inl 0] c10 :=
  ⟨⟨_, _, Go.Proofs.Try.func10, rfl, by kernel_rfl, Go.Proofs.Try.ntmps10, by kernel_rfl, ⟨fun f => imp.contains f, false⟩, by kernel_rfl⟩⟩

def c14 : C :=
  (.seq (.reg [⟨(some 2), none, .mv (k .nils)⟩])
  (.seq (.reg [⟨(some 3), none, .mv (k .nils)⟩])
  (.seq (.seq (.reg [⟨(some 4), none, .mv (k (.int .i64 0))⟩])
  (.block 0
  (.loop
  (.seq (.seq (.reg [⟨(some 6), none, .mv (t 4)⟩, ⟨(some 7), none, .mv (t 0)⟩, ⟨(some 8), none, .len (t 7)⟩, ⟨(some 9), none, .bin .lss (t 6) (t 8)⟩])
  (.cond (t 9)
  .skip
  (.exit 0)))
  (.seq (.block 1
  (.seq (.reg [⟨(some 12), none, .mv (t 0)⟩, ⟨(some 13), none, .mv (t 4)⟩, ⟨(some 14), none, .iaddr 4 (t 12) (t 13)⟩, ⟨(some 15), none, .load true 4 (t 14)⟩, ⟨(some 5), none, .alloc [(.str []), (.str []), (.int .i64 0), (.bool false)]⟩, ⟨none, none, .store 4 (t 5) (t 15)⟩])
  (.seq (.reg [⟨(some 16), none, .faddr 2 (t 5)⟩, ⟨(some 17), none, .load false 1 (t 16)⟩, ⟨(some 18), none, .conv .u64 (t 17)⟩, ⟨(some 19), none, .bin .rem (t 18) (k (.int .u64 4))⟩, ⟨(some 20), none, .conv .i64 (t 19)⟩, ⟨(some 21), none, .bin .add (k (.int .i64 1)) (t 20)⟩, ⟨(some 22), none, .faddr 2 (t 5)⟩, ⟨none, none, .store 1 (t 22) (t 21)⟩])
  (.reg [⟨(some 23), none, .mv (t 3)⟩, ⟨(some 24), none, .load true 4 (t 5)⟩, ⟨(some 25), none, .bsl 4 [(t 24)]⟩, ⟨(some 26), none, .app false 4 48 (t 23) (t 25)⟩, ⟨(some 3), none, .mv (t 26)⟩]))))
  (.reg [⟨(some 10), none, .mv (t 4)⟩, ⟨(some 11), none, .bin .add (t 10) (k (.int .i64 1))⟩, ⟨(some 4), none, .mv (t 11)⟩]))))))
  (.seq (.reg [⟨(some 27), none, .mv (t 3)⟩, ⟨(some 2), none, .mv (t 27)⟩])
  .ret))))
theorem fn14 : Fn Go.Proofs.Try.prog 14 28 [.inl 2] c14 :=
  ⟨⟨_, _, Go.Proofs.Try.func14, rfl, by kernel_rfl, Go.Proofs.Try.ntmps14, by kernel_rfl, ⟨fun f => imp.contains f, false⟩, by kernel_rfl⟩⟩

def c18 : C :=
  (.seq (.reg [⟨(some 1), none, .box (t 0)⟩, ⟨(some 2), none, .mv (k (.bool false))⟩])
  (.seq (.seq (.reg [⟨(some 4), none, .faddr 0 (t 1)⟩, ⟨(some 5), none, .load false 1 (t 4)⟩, ⟨(some 6), none, .bin .neq (t 5) (k (.int .i64 5))⟩])
  (.cond (t 6)
  (.seq (.reg [⟨(some 7), none, .load true 4 (t 1)⟩, ⟨(some 8), none, .pcall (k (.fn 37 [] [])) [(t 7)]⟩, ⟨(some 2), none, .mv (t 8)⟩])
  .ret)
  .skip))
  (.seq (.seq (.reg [⟨(some 9), none, .faddr 1 (t 1)⟩, ⟨(some 10), none, .load false 1 (t 9)⟩, ⟨(some 11), none, .bin .neq (t 10) (k (.int .i64 0))⟩, ⟨(some 12), none, .mv (t 11)⟩, ⟨(some 13), (some (12, false)), .faddr 2 (t 1)⟩, ⟨(some 14), (some (12, false)), .load false 1 (t 13)⟩, ⟨(some 15), (some (12, false)), .bin .neq (t 14) (k (.str []))⟩, ⟨(some 16), none, .pick (t 12) (k (.bool true)) (t 15)⟩, ⟨(some 17), none, .mv (t 16)⟩, ⟨(some 18), (some (17, false)), .faddr 3 (t 1)⟩, ⟨(some 19), (some (17, false)), .load false 1 (t 18)⟩, ⟨(some 20), (some (17, false)), .len (t 19)⟩, ⟨(some 21), (some (17, false)), .bin .gtr (t 20) (k (.int .i64 16))⟩, ⟨(some 22), none, .pick (t 17) (k (.bool true)) (t 21)⟩])
  (.cond (t 22)
  (.seq (.reg [⟨(some 2), none, .mv (k (.bool false))⟩])
  .ret)
  .skip))
  (.seq (.seq (.reg [⟨(some 3), none, .mv (k (.int .i64 0))⟩])
  (.block 0
  (.loop
  (.seq (.seq (.reg [⟨(some 23), none, .mv (t 3)⟩, ⟨(some 24), none, .faddr 3 (t 1)⟩, ⟨(some 25), none, .load false 1 (t 24)⟩, ⟨(some 26), none, .len (t 25)⟩, ⟨(some 27), none, .bin .lss (t 23) (t 26)⟩])
  (.cond (t 27)
  .skip
  (.exit 0)))
  (.seq (.block 1
  (.seq (.draw 0 [(⟨(some 30), none, .faddr 3 (t 1)⟩, []), (⟨(some 31), none, .load false 1 (t 30)⟩, []), (⟨(some 32), none, .mv (t 3)⟩, []), (⟨(some 33), none, .iaddr 4 (t 31) (t 32)⟩, []), (⟨(some 34), none, .load true 4 (t 33)⟩, []), (⟨(some 35), none, .pcall (k (.fn 37 [] [])) [(t 34)]⟩, []), (⟨(some 36), none, .un .not (t 35)⟩, []), (⟨(some 37), none, .mv (t 36)⟩, []), (⟨(some 38), (some (37, false)), .faddr 3 (t 1)⟩, []), (⟨(some 39), (some (37, false)), .load false 1 (t 38)⟩, []), (⟨(some 40), (some (37, false)), .mv (t 3)⟩, []), (⟨(some 41), (some (37, false)), .iaddr 4 (t 39) (t 40)⟩, []), (⟨(some 42), (some (37, false)), .faddr 0 (t 41)⟩, []), (⟨(some 43), (some (37, false)), .load false 1 (t 42)⟩, []), (⟨(some 44), (some (37, false)), .bin .eql (t 43) (k (.int .i64 0))⟩, []), (⟨(some 45), none, .pick (t 37) (k (.bool true)) (t 44)⟩, []), (⟨(some 46), none, .mv (t 45)⟩, []), (⟨(some 47), (some (46, false)), .faddr 3 (t 1)⟩, []), (⟨(some 48), (some (46, false)), .load false 1 (t 47)⟩, []), (⟨(some 49), (some (46, false)), .mv (t 3)⟩, []), (⟨(some 50), (some (46, false)), .iaddr 4 (t 48) (t 49)⟩, []), (⟨(some 51), (some (46, false)), .faddr 0 (t 50)⟩, []), (⟨(some 52), (some (46, false)), .load false 1 (t 51)⟩, []), (⟨(some 53), (some (46, false)), .faddr 3 (t 1)⟩, []), (⟨(some 54), (some (46, false)), .load false 1 (t 53)⟩, []), (⟨(some 55), (some (46, false)), .iaddr 4 (t 54) (k (.int .i64 0))⟩, []), (⟨(some 56), (some (46, false)), .faddr 0 (t 55)⟩, []), (⟨(some 57), (some (46, false)), .load false 1 (t 56)⟩, []), (⟨(some 58), (some (46, false)), .bin .neq (t 52) (t 57)⟩, []), (⟨(some 59), none, .pick (t 46) (k (.bool true)) (t 58)⟩, []), (⟨(some 60), none, .mv (t 59)⟩, []), (⟨(some 61), (some (60, false)), .mv (t 3)⟩, []), (⟨(some 62), (some (60, false)), .bin .gtr (t 61) (k (.int .i64 0))⟩, []), (⟨(some 63), (some (60, false)), .mv (t 62)⟩, []), (⟨(some 64), (some (63, true)), .faddr 3 (t 1)⟩, []), (⟨(some 65), (some (63, true)), .load false 1 (t 64)⟩, []), (⟨(some 66), (some (63, true)), .mv (t 3)⟩, []), (⟨(some 67), (some (63, true)), .bin .sub (t 66) (k (.int .i64 1))⟩, []), (⟨(some 68), (some (63, true)), .iaddr 4 (t 65) (t 67)⟩, []), (⟨(some 69), (some (63, true)), .load true 4 (t 68)⟩, []), (⟨(some 70), (some (63, true)), .faddr 3 (t 1)⟩, []), (⟨(some 71), (some (63, true)), .load false 1 (t 70)⟩, []), (⟨(some 72), (some (63, true)), .mv (t 3)⟩, []), (⟨(some 73), (some (63, true)), .iaddr 4 (t 71) (t 72)⟩, []), (⟨(some 74), (some (63, true)), .load true 4 (t 73)⟩, []), (⟨(some 75), (some (63, true)), .pcall (k (.fn 38 [] [])) [(t 69), (t 74)]⟩, []), (⟨(some 76), (some (63, true)), .bin .geq (t 75) (k (.int .i64 0))⟩, []), (⟨(some 77), (some (60, false)), .pick (t 63) (t 76) (k (.bool false))⟩, []), (⟨(some 78), none, .pick (t 60) (k (.bool true)) (t 77)⟩, [])])
  (.cond (t 78)
  (.seq (.reg [⟨(some 2), none, .mv (k (.bool false))⟩])
  .ret)
  .skip)))
  (.reg [⟨(some 28), none, .mv (t 3)⟩, ⟨(some 29), none, .bin .add (t 28) (k (.int .i64 1))⟩, ⟨(some 3), none, .mv (t 29)⟩]))))))
  (.seq (.reg [⟨(some 2), none, .mv (k (.bool true))⟩])
  .ret)))))
theorem fn18 : Fn Go.Proofs.Try.prog 18 79 [.inl 2] c18 :=
  ⟨⟨_, _, Go.Proofs.Try.func18, rfl, by kernel_rfl, Go.Proofs.Try.ntmps18, by kernel_rfl, ⟨fun f => imp.contains f, false⟩, by kernel_rfl⟩⟩

def c19 : C :=
  (.seq (.reg [⟨(some 4), none, .mv (k (.bool false))⟩])
  (.seq (.seq (.reg [⟨(some 5), none, .mv (k (.int .i64 0))⟩])
  (.block 0
  (.loop
  (.seq (.seq (.reg [⟨(some 7), none, .mv (t 5)⟩, ⟨(some 8), none, .mv (t 0)⟩, ⟨(some 9), none, .len (t 8)⟩, ⟨(some 10), none, .bin .lss (t 7) (t 9)⟩, ⟨(some 11), none, .mv (t 10)⟩, ⟨(some 12), (some (11, true)), .mv (t 5)⟩, ⟨(some 13), (some (11, true)), .bin .lss (t 12) (k (.int .i64 100))⟩, ⟨(some 14), none, .pick (t 11) (t 13) (k (.bool false))⟩])
  (.cond (t 14)
  .skip
  (.exit 0)))
  (.seq (.block 1
  (.seq (.seq (.reg [⟨(some 17), none, .mv (t 0)⟩, ⟨(some 18), none, .mv (t 5)⟩, ⟨(some 19), none, .iaddr 4 (t 17) (t 18)⟩, ⟨(some 20), none, .faddr 2 (t 19)⟩, ⟨(some 21), none, .load false 1 (t 20)⟩, ⟨(some 22), none, .lens (t 21)⟩, ⟨(some 23), none, .bin .gtr (t 22) (k (.int .i64 200))⟩, ⟨(some 24), none, .mv (t 23)⟩, ⟨(some 25), (some (24, false)), .mv (t 0)⟩, ⟨(some 26), (some (24, false)), .mv (t 5)⟩, ⟨(some 27), (some (24, false)), .iaddr 4 (t 25) (t 26)⟩, ⟨(some 28), (some (24, false)), .faddr 3 (t 27)⟩, ⟨(some 29), (some (24, false)), .load false 1 (t 28)⟩, ⟨(some 30), (some (24, false)), .len (t 29)⟩, ⟨(some 31), (some (24, false)), .bin .gtr (t 30) (k (.int .i64 30))⟩, ⟨(some 32), none, .pick (t 24) (k (.bool true)) (t 31)⟩])
  (.cond (t 32)
  (.seq (.reg [⟨(some 4), none, .mv (k (.bool false))⟩])
  .ret)
  .skip))
  (.seq (.reg [⟨(some 6), none, .mv (k (.int .i64 0))⟩])
  (.block 2
  (.loop
  (.seq (.seq (.reg [⟨(some 33), none, .mv (t 6)⟩, ⟨(some 34), none, .mv (t 0)⟩, ⟨(some 35), none, .mv (t 5)⟩, ⟨(some 36), none, .iaddr 4 (t 34) (t 35)⟩, ⟨(some 37), none, .faddr 3 (t 36)⟩, ⟨(some 38), none, .load false 1 (t 37)⟩, ⟨(some 39), none, .len (t 38)⟩, ⟨(some 40), none, .bin .lss (t 33) (t 39)⟩])
  (.cond (t 40)
  .skip
  (.exit 2)))
  (.seq (.block 3
  (.seq (.reg [⟨(some 43), none, .mv (t 0)⟩, ⟨(some 44), none, .mv (t 5)⟩, ⟨(some 45), none, .iaddr 4 (t 43) (t 44)⟩, ⟨(some 46), none, .faddr 3 (t 45)⟩, ⟨(some 47), none, .load false 1 (t 46)⟩, ⟨(some 48), none, .mv (t 6)⟩, ⟨(some 49), none, .iaddr 4 (t 47) (t 48)⟩, ⟨(some 50), none, .faddr 2 (t 49)⟩, ⟨(some 51), none, .load false 1 (t 50)⟩, ⟨(some 52), none, .lens (t 51)⟩, ⟨(some 53), none, .bin .gtr (t 52) (k (.int .i64 200))⟩, ⟨(some 54), none, .mv (t 53)⟩, ⟨(some 55), (some (54, false)), .mv (t 0)⟩, ⟨(some 56), (some (54, false)), .mv (t 5)⟩, ⟨(some 57), (some (54, false)), .iaddr 4 (t 55) (t 56)⟩, ⟨(some 58), (some (54, false)), .faddr 3 (t 57)⟩, ⟨(some 59), (some (54, false)), .load false 1 (t 58)⟩, ⟨(some 60), (some (54, false)), .mv (t 6)⟩, ⟨(some 61), (some (54, false)), .iaddr 4 (t 59) (t 60)⟩, ⟨(some 62), (some (54, false)), .faddr 3 (t 61)⟩, ⟨(some 63), (some (54, false)), .load false 1 (t 62)⟩, ⟨(some 64), (some (54, false)), .len (t 63)⟩, ⟨(some 65), (some (54, false)), .bin .gtr (t 64) (k (.int .i64 0))⟩, ⟨(some 66), none, .pick (t 54) (k (.bool true)) (t 65)⟩])
  (.cond (t 66)
  (.seq (.reg [⟨(some 4), none, .mv (k (.bool false))⟩])
  .ret)
  .skip)))
  (.reg [⟨(some 41), none, .mv (t 6)⟩, ⟨(some 42), none, .bin .add (t 41) (k (.int .i64 1))⟩, ⟨(some 6), none, .mv (t 42)⟩]))))))))
  (.reg [⟨(some 15), none, .mv (t 5)⟩, ⟨(some 16), none, .bin .add (t 15) (k (.int .i64 1))⟩, ⟨(some 5), none, .mv (t 16)⟩]))))))
  (.seq (.reg [⟨(some 67), none, .mv (t 0)⟩, ⟨(some 68), none, .len (t 67)⟩, ⟨(some 69), none, .mv (t 1)⟩, ⟨(some 70), none, .bin .leq (t 68) (t 69)⟩, ⟨(some 4), none, .mv (t 70)⟩])
  .ret)))
theorem fn19 : Fn Go.Proofs.Try.prog 19 71 [.inl 4] c19 :=
  ⟨⟨_, _, Go.Proofs.Try.func19, rfl, by kernel_rfl, Go.Proofs.Try.ntmps19, by kernel_rfl, ⟨fun f => imp.contains f, false⟩, by kernel_rfl⟩⟩

def c22 : C :=
  (.seq (.reg [⟨(some 2), none, .box (t 0)⟩, ⟨(some 3), none, .box (t 1)⟩, ⟨(some 4), none, .mv (k (.bool false))⟩, ⟨(some 5), none, .mv (k (.int .i64 0))⟩])
  (.seq (.seq (.reg [⟨(some 7), none, .load true 8 (t 2)⟩, ⟨(some 8), none, .load true 3 (t 3)⟩, ⟨(some 9), none, .pcall (k (.fn 35 [] [])) [(t 7), (t 8)]⟩, ⟨(some 6), none, .mv (t 9)⟩])
  (.seq (.reg [⟨(some 10), none, .mv (t 6)⟩, ⟨(some 11), none, .bin .neq (t 10) (k (.int .i64 0))⟩])
  (.cond (t 11)
  (.seq (.reg [⟨(some 12), none, .mv (t 6)⟩, ⟨(some 4), none, .mv (k (.bool false))⟩, ⟨(some 5), none, .mv (t 12)⟩])
  .ret)
  .skip)))
  (.seq (.reg [⟨(some 13), none, .load true 3 (t 3)⟩, ⟨(some 14), none, .load true 8 (t 2)⟩, ⟨(some 15), none, .pcall (k (.fn 39 [] [])) [(t 13), (t 14)]⟩, ⟨(some 16), none, .ext 0 (t 15)⟩, ⟨(some 17), none, .ext 1 (t 15)⟩, ⟨(some 4), none, .mv (t 16)⟩, ⟨(some 5), none, .mv (t 17)⟩])
  .ret)))
theorem fn22 : Fn Go.Proofs.Try.prog 22 18 [.inl 4, .inl 5] c22 :=
  ⟨⟨_, _, Go.Proofs.Try.func22, rfl, by kernel_rfl, Go.Proofs.Try.ntmps22, by kernel_rfl, ⟨fun f => imp.contains f, false⟩, by kernel_rfl⟩⟩

def c41 : C :=
  (.seq (.reg [⟨(some 2), none, .box (t 0)⟩, ⟨(some 3), none, .box (t 1)⟩, ⟨(some 4), none, .alloc [(.int .i64 0), (.int .i64 0), (.str []), .nils]⟩, ⟨(some 5), none, .mv (k (.int .i64 0))⟩])
  (.seq (.reg [⟨(some 6), none, .load true 8 (t 2)⟩, ⟨(some 7), none, .load true 3 (t 3)⟩, ⟨(some 8), none, .pcall (k (.fn 26 [] [])) [(t 6), (t 7)]⟩, ⟨(some 9), none, .ext 0 (t 8)⟩, ⟨(some 10), none, .ext 1 (t 8)⟩, ⟨none, none, .store 4 (t 4) (t 9)⟩, ⟨(some 5), none, .mv (t 10)⟩])
  .ret))
theorem fn41 : Fn Go.Proofs.Try.prog 41 11 [.inr (4, true, 4), .inl 5] c41 :=
  ⟨⟨_, _, Go.Proofs.Try.func41, rfl, by kernel_rfl, Go.Proofs.Try.ntmps41, by kernel_rfl, ⟨fun f => imp.contains f, false⟩, by kernel_rfl⟩⟩

def c55 : C :=
  (.seq (.reg [⟨(some 4), none, .box (t 1)⟩, ⟨(some 5), none, .box (t 2)⟩, ⟨(some 6), none, .alloc [(.int .i64 0), (.int .i64 0), (.str []), .nils]⟩, ⟨(some 7), none, .mv (k (.int .i64 0))⟩])
  (.seq (.seq (.reg [⟨(some 8), none, .mv (t 0)⟩])
  (.block 0
  (.seq (.reg [⟨(some 10), none, .bin .eql (t 8) (k (.str [43]))⟩, ⟨(some 9), none, .mv (t 10)⟩])
  (.cond (t 9)
  (.seq (.reg [⟨(some 11), none, .load true 4 (t 4)⟩, ⟨(some 12), none, .load true 4 (t 5)⟩, ⟨(some 13), none, .pcall (k (.fn 77 [] [])) [(t 11), (t 12)]⟩, ⟨(some 14), none, .ext 0 (t 13)⟩, ⟨(some 15), none, .ext 1 (t 13)⟩, ⟨none, none, .store 4 (t 6) (t 14)⟩, ⟨(some 7), none, .mv (t 15)⟩])
  .ret)
  (.seq (.reg [⟨(some 17), none, .bin .eql (t 8) (k (.str [45]))⟩, ⟨(some 16), none, .mv (t 17)⟩])
  (.cond (t 16)
  (.seq (.reg [⟨(some 18), none, .load true 4 (t 4)⟩, ⟨(some 19), none, .load true 4 (t 5)⟩, ⟨(some 20), none, .pcall (k (.fn 75 [] [])) [(t 18), (t 19)]⟩, ⟨(some 21), none, .ext 0 (t 20)⟩, ⟨(some 22), none, .ext 1 (t 20)⟩, ⟨none, none, .store 4 (t 6) (t 21)⟩, ⟨(some 7), none, .mv (t 22)⟩])
  .ret)
  (.seq (.reg [⟨(some 24), none, .bin .eql (t 8) (k (.str [42]))⟩, ⟨(some 23), none, .mv (t 24)⟩])
  (.cond (t 23)
  (.seq (.reg [⟨(some 25), none, .load true 4 (t 4)⟩, ⟨(some 26), none, .load true 4 (t 5)⟩, ⟨(some 27), none, .pcall (k (.fn 78 [] [])) [(t 25), (t 26)]⟩, ⟨(some 28), none, .ext 0 (t 27)⟩, ⟨(some 29), none, .ext 1 (t 27)⟩, ⟨none, none, .store 4 (t 6) (t 28)⟩, ⟨(some 7), none, .mv (t 29)⟩])
  .ret)
  (.seq (.reg [⟨(some 31), none, .bin .eql (t 8) (k (.str [105, 110]))⟩, ⟨(some 30), none, .mv (t 31)⟩])
  (.cond (t 30)
  (.seq (.reg [⟨(some 32), none, .load true 4 (t 4)⟩, ⟨(some 33), none, .load true 4 (t 5)⟩, ⟨(some 34), none, .pcall (k (.fn 80 [] [])) [(t 32), (t 33)]⟩, ⟨(some 35), none, .ext 0 (t 34)⟩, ⟨(some 36), none, .ext 1 (t 34)⟩, ⟨(some 37), none, .pcall (k (.fn 79 [] [])) [(t 35), (t 36)]⟩, ⟨(some 38), none, .ext 0 (t 37)⟩, ⟨(some 39), none, .ext 1 (t 37)⟩, ⟨none, none, .store 4 (t 6) (t 38)⟩, ⟨(some 7), none, .mv (t 39)⟩])
  .ret)
  .skip))))))))))
  (.seq (.reg [⟨(some 40), none, .mv (t 0)⟩, ⟨(some 41), none, .load true 4 (t 4)⟩, ⟨(some 42), none, .load true 4 (t 5)⟩, ⟨(some 43), none, .pcall (k (.fn 81 [] [])) [(t 40), (t 41), (t 42)]⟩, ⟨(some 44), none, .ext 0 (t 43)⟩, ⟨(some 45), none, .ext 1 (t 43)⟩, ⟨(some 46), none, .pcall (k (.fn 79 [] [])) [(t 44), (t 45)]⟩, ⟨(some 47), none, .ext 0 (t 46)⟩, ⟨(some 48), none, .ext 1 (t 46)⟩, ⟨none, none, .store 4 (t 6) (t 47)⟩, ⟨(some 7), none, .mv (t 48)⟩])
  .ret)))
theorem fn55 : Fn Go.Proofs.Try.prog 55 49 [.inr (6, true, 4), .inl 7] c55 :=
  ⟨⟨_, _, Go.Proofs.Try.func55, rfl, by kernel_rfl, Go.Proofs.Try.ntmps55, by kernel_rfl, ⟨fun f => imp.contains f, false⟩, by kernel_rfl⟩⟩

def c58 : C :=
  (.seq (.reg [⟨(some 1), none, .box (t 0)⟩, ⟨(some 2), none, .mv (k (.bool false))⟩])
  (.seq (.seq (.reg [⟨(some 3), none, .faddr 3 (t 1)⟩, ⟨(some 4), none, .load false 1 (t 3)⟩, ⟨(some 5), none, .len (t 4)⟩, ⟨(some 6), none, .bin .gtr (t 5) (k (.int .i64 0))⟩, ⟨(some 7), none, .mv (t 6)⟩, ⟨(some 8), (some (7, false)), .faddr 0 (t 1)⟩, ⟨(some 9), (some (7, false)), .load false 1 (t 8)⟩, ⟨(some 10), (some (7, false)), .bin .neq (t 9) (k (.int .i64 3))⟩, ⟨(some 11), (some (7, false)), .mv (t 10)⟩, ⟨(some 12), (some (11, true)), .faddr 2 (t 1)⟩, ⟨(some 13), (some (11, true)), .load false 1 (t 12)⟩, ⟨(some 14), (some (11, true)), .bin .neq (t 13) (k (.str []))⟩, ⟨(some 15), (some (7, false)), .pick (t 11) (t 14) (k (.bool false))⟩, ⟨(some 16), none, .pick (t 7) (k (.bool true)) (t 15)⟩])
  (.cond (t 16)
  (.seq (.reg [⟨(some 2), none, .mv (k (.bool false))⟩])
  .ret)
  .skip))
  (.seq (.seq (.reg [⟨(some 17), none, .faddr 0 (t 1)⟩, ⟨(some 18), none, .load false 1 (t 17)⟩])
  (.block 0
  (.seq (.reg [⟨(some 20), none, .bin .eql (t 18) (k (.int .i64 0))⟩, ⟨(some 19), none, .mv (t 20)⟩])
  (.cond (t 19)
  (.seq (.reg [⟨(some 21), none, .faddr 1 (t 1)⟩, ⟨(some 22), none, .load false 1 (t 21)⟩, ⟨(some 23), none, .bin .eql (t 22) (k (.int .i64 0))⟩, ⟨(some 2), none, .mv (t 23)⟩])
  .ret)
  (.seq (.reg [⟨(some 25), none, .bin .eql (t 18) (k (.int .i64 1))⟩, ⟨(some 24), none, .mv (t 25)⟩])
  (.cond (t 24)
  (.seq (.reg [⟨(some 26), none, .faddr 1 (t 1)⟩, ⟨(some 27), none, .load false 1 (t 26)⟩, ⟨(some 28), none, .bin .eql (t 27) (k (.int .i64 0))⟩, ⟨(some 29), none, .mv (t 28)⟩, ⟨(some 30), (some (29, false)), .faddr 1 (t 1)⟩, ⟨(some 31), (some (29, false)), .load false 1 (t 30)⟩, ⟨(some 32), (some (29, false)), .bin .eql (t 31) (k (.int .i64 1))⟩, ⟨(some 33), none, .pick (t 29) (k (.bool true)) (t 32)⟩, ⟨(some 2), none, .mv (t 33)⟩])
  .ret)
  (.seq (.reg [⟨(some 35), none, .bin .eql (t 18) (k (.int .i64 2))⟩, ⟨(some 34), none, .mv (t 35)⟩])
  (.cond (t 34)
  (.seq (.reg [⟨(some 2), none, .mv (k (.bool true))⟩])
  .ret)
  (.seq (.reg [⟨(some 37), none, .bin .eql (t 18) (k (.int .i64 3))⟩, ⟨(some 36), none, .mv (t 37)⟩])
  (.cond (t 36)
  (.seq (.reg [⟨(some 38), none, .faddr 1 (t 1)⟩, ⟨(some 39), none, .load false 1 (t 38)⟩, ⟨(some 40), none, .bin .eql (t 39) (k (.int .i64 0))⟩, ⟨(some 41), none, .mv (t 40)⟩, ⟨(some 42), (some (41, true)), .faddr 2 (t 1)⟩, ⟨(some 43), (some (41, true)), .load false 1 (t 42)⟩, ⟨(some 44), (some (41, true)), .lens (t 43)⟩, ⟨(some 45), (some (41, true)), .bin .leq (t 44) (k (.int .i64 64))⟩, ⟨(some 46), none, .pick (t 41) (t 45) (k (.bool false))⟩, ⟨(some 2), none, .mv (t 46)⟩])
  .ret)
  (.seq (.reg [⟨(some 48), none, .bin .eql (t 18) (k (.int .i64 4))⟩, ⟨(some 47), none, .mv (t 48)⟩])
  (.cond (t 47)
  (.seq (.reg [⟨(some 49), none, .faddr 1 (t 1)⟩, ⟨(some 50), none, .load false 1 (t 49)⟩, ⟨(some 51), none, .bin .geq (t 50) (k (.int .i64 0))⟩, ⟨(some 52), none, .mv (t 51)⟩, ⟨(some 53), (some (52, true)), .faddr 1 (t 1)⟩, ⟨(some 54), (some (52, true)), .load false 1 (t 53)⟩, ⟨(some 55), (some (52, true)), .bin .leq (t 54) (k (.int .i64 1099511627776))⟩, ⟨(some 56), none, .pick (t 52) (t 55) (k (.bool false))⟩, ⟨(some 2), none, .mv (t 56)⟩])
  .ret)
  .skip))))))))))))
  (.seq (.reg [⟨(some 2), none, .mv (k (.bool false))⟩])
  .ret))))
theorem fn58 : Fn Go.Proofs.Try.prog 58 57 [.inl 2] c58 :=
  ⟨⟨_, _, Go.Proofs.Try.func58, rfl, by kernel_rfl, Go.Proofs.Try.ntmps58, by kernel_rfl, ⟨fun f => imp.contains f, false⟩, by kernel_rfl⟩⟩

def c62 : C :=
  (.seq (.reg [⟨(some 2), none, .box (t 0)⟩, ⟨(some 3), none, .box (t 1)⟩, ⟨(some 4), none, .alloc [(.int .i64 0), (.int .u64 0)]⟩])
  (.seq (.reg [⟨(some 7), none, .faddr 1 (t 2)⟩, ⟨(some 8), none, .load false 1 (t 7)⟩, ⟨(some 9), none, .faddr 1 (t 3)⟩, ⟨(some 10), none, .load false 1 (t 9)⟩, ⟨(some 11), none, .bin .add (t 8) (t 10)⟩, ⟨(some 5), none, .mv (t 11)⟩])
  (.seq (.reg [⟨(some 12), none, .faddr 0 (t 2)⟩, ⟨(some 13), none, .load false 1 (t 12)⟩, ⟨(some 14), none, .conv .u64 (t 13)⟩, ⟨(some 15), none, .faddr 0 (t 3)⟩, ⟨(some 16), none, .load false 1 (t 15)⟩, ⟨(some 17), none, .conv .u64 (t 16)⟩, ⟨(some 18), none, .bin .add (t 14) (t 17)⟩, ⟨(some 19), none, .conv .i64 (t 18)⟩, ⟨(some 6), none, .mv (t 19)⟩])
  (.seq (.seq (.reg [⟨(some 20), none, .mv (t 5)⟩, ⟨(some 21), none, .faddr 1 (t 2)⟩, ⟨(some 22), none, .load false 1 (t 21)⟩, ⟨(some 23), none, .bin .lss (t 20) (t 22)⟩])
  (.cond (t 23)
  (.reg [⟨(some 24), none, .mv (t 6)⟩, ⟨(some 25), none, .conv .u64 (t 24)⟩, ⟨(some 26), none, .bin .add (t 25) (k (.int .u64 1))⟩, ⟨(some 27), none, .conv .i64 (t 26)⟩, ⟨(some 6), none, .mv (t 27)⟩])
  .skip))
  (.seq (.reg [⟨(some 28), none, .mv (t 6)⟩, ⟨(some 29), none, .mv (t 5)⟩, ⟨(some 30), none, .build [(.int .i64 0), (.int .u64 0)] [(0, 1, (t 28)), (1, 1, (t 29))]⟩, ⟨none, none, .store 2 (t 4) (t 30)⟩])
  .ret)))))
theorem fn62 : Fn Go.Proofs.Try.prog 62 31 [.inr (4, true, 2)] c62 :=
  ⟨⟨_, _, Go.Proofs.Try.func62, rfl, by kernel_rfl, Go.Proofs.Try.ntmps62, by kernel_rfl, ⟨fun f => imp.contains f, false⟩, by kernel_rfl⟩⟩

def c73 : C :=
  (.seq (.reg [⟨(some 4), none, .mv (k (.bool false))⟩])
  (.seq (.reg [⟨(some 5), none, .mv (t 0)⟩, ⟨(some 6), none, .mv (t 1)⟩, ⟨(some 7), none, .pcall (k (.fn 88 [] [])) [(t 5), (t 6)]⟩, ⟨(some 8), none, .bin .geq (t 7) (k (.int .i64 0))⟩, ⟨(some 4), none, .mv (t 8)⟩])
  .ret))
theorem fn73 : Fn Go.Proofs.Try.prog 73 9 [.inl 4] c73 :=
  ⟨⟨_, _, Go.Proofs.Try.func73, rfl, by kernel_rfl, Go.Proofs.Try.ntmps73, by kernel_rfl, ⟨fun f => imp.contains f, false⟩, by kernel_rfl⟩⟩

def c78 : C :=
  (.seq (.reg [⟨(some 2), none, .box (t 0)⟩, ⟨(some 3), none, .box (t 1)⟩, ⟨(some 4), none, .alloc [(.int .i64 0), (.int .i64 0), (.str []), .nils]⟩, ⟨(some 5), none, .mv (k (.int .i64 0))⟩])
  (.seq (.block 0
  (.seq (.reg [⟨(some 7), none, .load true 4 (t 2)⟩, ⟨(some 8), none, .pcall (k (.fn 40 [] [])) [(t 7)]⟩, ⟨(some 9), none, .un .not (t 8)⟩, ⟨(some 10), none, .mv (t 9)⟩, ⟨(some 11), (some (10, false)), .load true 4 (t 3)⟩, ⟨(some 12), (some (10, false)), .pcall (k (.fn 40 [] [])) [(t 11)]⟩, ⟨(some 13), (some (10, false)), .un .not (t 12)⟩, ⟨(some 14), none, .pick (t 10) (k (.bool true)) (t 13)⟩, ⟨(some 6), none, .mv (t 14)⟩])
  (.cond (t 6)
  (.seq (.reg [⟨(some 15), none, .build [(.int .i64 0), (.int .i64 0), (.str []), .nils] []⟩, ⟨none, none, .store 4 (t 4) (t 15)⟩, ⟨(some 5), none, .mv (k (.int .i64 1))⟩])
  .ret)
  (.seq (.reg [⟨(some 17), none, .faddr 0 (t 2)⟩, ⟨(some 18), none, .load false 1 (t 17)⟩, ⟨(some 19), none, .bin .neq (t 18) (k (.int .i64 2))⟩, ⟨(some 20), none, .mv (t 19)⟩, ⟨(some 21), (some (20, false)), .faddr 0 (t 3)⟩, ⟨(some 22), (some (20, false)), .load false 1 (t 21)⟩, ⟨(some 23), (some (20, false)), .bin .neq (t 22) (k (.int .i64 2))⟩, ⟨(some 24), none, .pick (t 20) (k (.bool true)) (t 23)⟩, ⟨(some 16), none, .mv (t 24)⟩])
  (.cond (t 16)
  (.seq (.reg [⟨(some 25), none, .build [(.int .i64 0), (.int .i64 0), (.str []), .nils] []⟩, ⟨none, none, .store 4 (t 4) (t 25)⟩, ⟨(some 5), none, .mv (k (.int .i64 6))⟩])
  .ret)
  .skip)))))
  (.seq (.reg [⟨(some 26), none, .faddr 1 (t 2)⟩, ⟨(some 27), none, .load false 1 (t 26)⟩, ⟨(some 28), none, .faddr 1 (t 3)⟩, ⟨(some 29), none, .load false 1 (t 28)⟩, ⟨(some 30), none, .pcall (k (.fn 96 [] [])) [(t 27), (t 29)]⟩, ⟨(some 31), none, .ext 0 (t 30)⟩, ⟨(some 32), none, .ext 1 (t 30)⟩, ⟨(some 33), none, .pcall (k (.fn 92 [] [])) [(t 31), (t 32)]⟩, ⟨(some 34), none, .ext 0 (t 33)⟩, ⟨(some 35), none, .ext 1 (t 33)⟩, ⟨none, none, .store 4 (t 4) (t 34)⟩, ⟨(some 5), none, .mv (t 35)⟩])
  .ret)))
theorem fn78 : Fn Go.Proofs.Try.prog 78 36 [.inr (4, true, 4), .inl 5] c78 :=
  ⟨⟨_, _, Go.Proofs.Try.func78, rfl, by kernel_rfl, Go.Proofs.Try.ntmps78, by kernel_rfl, ⟨fun f => imp.contains f, false⟩, by kernel_rfl⟩⟩

def c86 : C :=
  (.seq (.reg [⟨(some 6), none, .mv (k (.int .i64 0))⟩])
  (.seq (.seq (.reg [⟨(some 11), none, .mv (t 0)⟩, ⟨(some 12), none, .len (t 11)⟩, ⟨(some 13), none, .mv (k (.int .i64 0))⟩])
  (.block 0
  (.loop
  (.seq (.reg [⟨(some 14), none, .bin .lss (t 13) (t 12)⟩])
  (.seq (.cond (t 14)
  .skip
  (.exit 0))
  (.seq (.block 1
  (.seq (.reg [⟨(some 15), none, .mv (t 13)⟩, ⟨(some 16), none, .iaddr 4 (t 11) (t 13)⟩, ⟨(some 17), none, .load true 4 (t 16)⟩, ⟨(some 8), none, .alloc [(.int .i64 0), (.int .i64 0), (.str []), .nils]⟩, ⟨(some 7), none, .mv (t 15)⟩, ⟨none, none, .store 4 (t 8) (t 17)⟩])
  (.seq (.seq (.reg [⟨(some 18), none, .mv (t 7)⟩, ⟨(some 19), none, .mv (t 1)⟩, ⟨(some 20), none, .len (t 19)⟩, ⟨(some 21), none, .bin .geq (t 18) (t 20)⟩])
  (.cond (t 21)
  (.seq (.reg [⟨(some 6), none, .mv (k (.int .i64 1))⟩])
  .ret)
  .skip))
  (.seq (.reg [⟨(some 22), none, .mv (t 1)⟩, ⟨(some 23), none, .mv (t 7)⟩, ⟨(some 24), none, .iaddr 4 (t 22) (t 23)⟩, ⟨(some 25), none, .load true 4 (t 24)⟩, ⟨(some 9), none, .alloc [(.int .i64 0), (.int .i64 0), (.str []), .nils]⟩, ⟨none, none, .store 4 (t 9) (t 25)⟩])
  (.seq (.reg [⟨(some 26), none, .mv (t 2)⟩, ⟨(some 27), none, .load true 4 (t 8)⟩, ⟨(some 28), none, .load true 4 (t 9)⟩, ⟨(some 29), none, .pcall (t 26) [(t 27), (t 28)]⟩, ⟨(some 10), none, .mv (t 29)⟩])
  (.seq (.reg [⟨(some 30), none, .mv (t 10)⟩, ⟨(some 31), none, .bin .neq (t 30) (k (.int .i64 0))⟩])
  (.cond (t 31)
  (.seq (.reg [⟨(some 32), none, .mv (t 10)⟩, ⟨(some 6), none, .mv (t 32)⟩])
  .ret)
  .skip)))))))
  (.reg [⟨(some 33), none, .bin .add (t 13) (k (.int .i64 1))⟩, ⟨(some 13), none, .mv (t 33)⟩])))))))
  (.seq (.seq (.reg [⟨(some 34), none, .mv (t 0)⟩, ⟨(some 35), none, .len (t 34)⟩, ⟨(some 36), none, .mv (t 1)⟩, ⟨(some 37), none, .len (t 36)⟩, ⟨(some 38), none, .bin .lss (t 35) (t 37)⟩])
  (.cond (t 38)
  (.seq (.reg [⟨(some 6), none, .mv (k (.int .i64 (-1)))⟩])
  .ret)
  .skip))
  (.seq (.reg [⟨(some 6), none, .mv (k (.int .i64 0))⟩])
  .ret))))
theorem fn86 : Fn Go.Proofs.Try.prog 86 39 [.inl 6] c86 :=
  ⟨⟨_, _, Go.Proofs.Try.func86, rfl, by kernel_rfl, Go.Proofs.Try.ntmps86, by kernel_rfl, ⟨fun f => imp.contains f, false⟩, by kernel_rfl⟩⟩

def c90 : C :=
  (.seq (.reg [⟨(some 3), none, .box (t 0)⟩, ⟨(some 4), none, .mv (k (.bool false))⟩])
  (.seq (.reg [⟨(some 5), none, .faddr 0 (t 3)⟩, ⟨(some 6), none, .load false 1 (t 5)⟩, ⟨(some 7), none, .load false 1 (t 1)⟩, ⟨(some 8), none, .bin .eql (t 6) (t 7)⟩, ⟨(some 9), none, .mv (t 8)⟩, ⟨(some 10), (some (9, true)), .faddr 1 (t 3)⟩, ⟨(some 11), (some (9, true)), .load false 1 (t 10)⟩, ⟨(some 12), (some (9, true)), .load false 1 (t 2)⟩, ⟨(some 13), (some (9, true)), .bin .eql (t 11) (t 12)⟩, ⟨(some 14), none, .pick (t 9) (t 13) (k (.bool false))⟩, ⟨(some 4), none, .mv (t 14)⟩])
  .ret))
theorem fn90 : Fn Go.Proofs.Try.prog 90 15 [.inl 4] c90 :=
  ⟨⟨_, _, Go.Proofs.Try.func90, rfl, by kernel_rfl, Go.Proofs.Try.ntmps90, by kernel_rfl, ⟨fun f => imp.contains f, false⟩, by kernel_rfl⟩⟩

def c95 : C :=
  (.seq (.reg [⟨(some 4), none, .mv (k (.int .i64 0))⟩, ⟨(some 5), none, .mv (k (.bool false))⟩])
  (.seq (.reg [⟨(some 7), none, .mv (t 0)⟩, ⟨(some 8), none, .mv (t 1)⟩, ⟨(some 9), none, .bin .add (t 7) (t 8)⟩, ⟨(some 6), none, .mv (t 9)⟩])
  (.seq (.reg [⟨(some 10), none, .mv (t 6)⟩, ⟨(some 11), none, .mv (t 0)⟩, ⟨(some 12), none, .bin .lss (t 11) (k (.int .i64 0))⟩, ⟨(some 13), none, .mv (t 1)⟩, ⟨(some 14), none, .bin .lss (t 13) (k (.int .i64 0))⟩, ⟨(some 15), none, .eq1 .bool true (t 12) (t 14)⟩, ⟨(some 16), none, .mv (t 15)⟩, ⟨(some 17), (some (16, false)), .mv (t 6)⟩, ⟨(some 18), (some (16, false)), .bin .lss (t 17) (k (.int .i64 0))⟩, ⟨(some 19), (some (16, false)), .mv (t 0)⟩, ⟨(some 20), (some (16, false)), .bin .lss (t 19) (k (.int .i64 0))⟩, ⟨(some 21), (some (16, false)), .eq1 .bool false (t 18) (t 20)⟩, ⟨(some 22), none, .pick (t 16) (k (.bool true)) (t 21)⟩, ⟨(some 4), none, .mv (t 10)⟩, ⟨(some 5), none, .mv (t 22)⟩])
  .ret)))
theorem fn95 : Fn Go.Proofs.Try.prog 95 23 [.inl 4, .inl 5] c95 :=
  ⟨⟨_, _, Go.Proofs.Try.func95, rfl, by kernel_rfl, Go.Proofs.Try.ntmps95, by kernel_rfl, ⟨fun f => imp.contains f, false⟩, by kernel_rfl⟩⟩

def c97 : C :=
  (.seq (.reg [⟨(some 4), none, .mv (k (.bool false))⟩])
  (.seq (.reg [⟨(some 5), none, .mv (t 0)⟩, ⟨(some 6), none, .mv (t 1)⟩, ⟨(some 7), none, .pcall (k (.fn 104 [] [])) [(t 5), (t 6)]⟩, ⟨(some 8), none, .bin .geq (t 7) (k (.int .i64 0))⟩, ⟨(some 4), none, .mv (t 8)⟩])
  .ret))
theorem fn97 : Fn Go.Proofs.Try.prog 97 9 [.inl 4] c97 :=
  ⟨⟨_, _, Go.Proofs.Try.func97, rfl, by kernel_rfl, Go.Proofs.Try.ntmps97, by kernel_rfl, ⟨fun f => imp.contains f, false⟩, by kernel_rfl⟩⟩

end GP
