import Derived.Test.YtnipbngimicldaaGpYe
import Derived.Test.YtnipbngimicldaaGpbi
import Derived.Test.YtnipbngimicldaaProg
namespace GP
open Go Go.Proofs
open Rd O
set_option maxRecDepth 100000
def c13 : C :=
  (.seq (.reg [⟨(some 1), none, .box (t 0)⟩, ⟨(some 2), none, .mv (k (.bool false))⟩])
  (.seq (.seq (.reg [⟨(some 3), none, .mv (k (.int .i64 0))⟩])
  (.block 0
  (.loop
  (.seq (.seq (.reg [⟨(some 5), none, .mv (t 3)⟩, ⟨(some 6), none, .faddr 2 (t 1)⟩, ⟨(some 7), none, .load false 1 (t 6)⟩, ⟨(some 8), none, .len (t 7)⟩, ⟨(some 9), none, .bin .lss (t 5) (t 8)⟩, ⟨(some 10), none, .mv (t 9)⟩, ⟨(some 11), (some (10, true)), .mv (t 3)⟩, ⟨(some 12), (some (10, true)), .bin .lss (t 11) (k (.int .i64 30))⟩, ⟨(some 13), none, .pick (t 10) (t 12) (k (.bool false))⟩])
  (.cond (t 13)
  .skip
  (.exit 0)))
  (.seq (.block 1
  (.seq (.reg [⟨(some 16), none, .faddr 2 (t 1)⟩, ⟨(some 17), none, .load false 1 (t 16)⟩, ⟨(some 18), none, .mv (t 3)⟩, ⟨(some 19), none, .iaddr 6 (t 17) (t 18)⟩, ⟨(some 20), none, .faddr 0 (t 19)⟩, ⟨(some 21), none, .load false 1 (t 20)⟩, ⟨(some 22), none, .lens (t 21)⟩, ⟨(some 23), none, .bin .gtr (t 22) (k (.int .i64 200))⟩, ⟨(some 24), none, .mv (t 23)⟩, ⟨(some 25), (some (24, false)), .faddr 2 (t 1)⟩, ⟨(some 26), (some (24, false)), .load false 1 (t 25)⟩, ⟨(some 27), (some (24, false)), .mv (t 3)⟩, ⟨(some 28), (some (24, false)), .iaddr 6 (t 26) (t 27)⟩, ⟨(some 29), (some (24, false)), .faddr 1 (t 28)⟩, ⟨(some 30), (some (24, false)), .load false 1 (t 29)⟩, ⟨(some 31), (some (24, false)), .lens (t 30)⟩, ⟨(some 32), (some (24, false)), .bin .gtr (t 31) (k (.int .i64 200))⟩, ⟨(some 33), none, .pick (t 24) (k (.bool true)) (t 32)⟩, ⟨(some 34), none, .mv (t 33)⟩, ⟨(some 35), (some (34, false)), .faddr 2 (t 1)⟩, ⟨(some 36), (some (34, false)), .load false 1 (t 35)⟩, ⟨(some 37), (some (34, false)), .mv (t 3)⟩, ⟨(some 38), (some (34, false)), .iaddr 6 (t 36) (t 37)⟩, ⟨(some 39), (some (34, false)), .faddr 2 (t 38)⟩, ⟨(some 40), (some (34, false)), .load true 4 (t 39)⟩, ⟨(some 41), (some (34, false)), .bsl 4 [(t 40)]⟩, ⟨(some 42), (some (34, false)), .pcall (k (.fn 19 [] [])) [(t 41), (k (.int .i64 1))]⟩, ⟨(some 43), (some (34, false)), .un .not (t 42)⟩, ⟨(some 44), none, .pick (t 34) (k (.bool true)) (t 43)⟩])
  (.cond (t 44)
  (.seq (.reg [⟨(some 2), none, .mv (k (.bool false))⟩])
  .ret)
  .skip)))
  (.reg [⟨(some 14), none, .mv (t 3)⟩, ⟨(some 15), none, .bin .add (t 14) (k (.int .i64 1))⟩, ⟨(some 3), none, .mv (t 15)⟩]))))))
  (.seq (.seq (.reg [⟨(some 4), none, .mv (k (.int .i64 0))⟩])
  (.block 2
  (.loop
  (.seq (.seq (.reg [⟨(some 45), none, .mv (t 4)⟩, ⟨(some 46), none, .faddr 1 (t 1)⟩, ⟨(some 47), none, .load false 1 (t 46)⟩, ⟨(some 48), none, .len (t 47)⟩, ⟨(some 49), none, .bin .lss (t 45) (t 48)⟩, ⟨(some 50), none, .mv (t 49)⟩, ⟨(some 51), (some (50, true)), .mv (t 4)⟩, ⟨(some 52), (some (50, true)), .bin .lss (t 51) (k (.int .i64 30))⟩, ⟨(some 53), none, .pick (t 50) (t 52) (k (.bool false))⟩])
  (.cond (t 53)
  .skip
  (.exit 2)))
  (.seq (.block 3
  (.seq (.reg [⟨(some 56), none, .faddr 1 (t 1)⟩, ⟨(some 57), none, .load false 1 (t 56)⟩, ⟨(some 58), none, .mv (t 4)⟩, ⟨(some 59), none, .iaddr 1 (t 57) (t 58)⟩, ⟨(some 60), none, .load false 1 (t 59)⟩, ⟨(some 61), none, .lens (t 60)⟩, ⟨(some 62), none, .bin .gtr (t 61) (k (.int .i64 200))⟩])
  (.cond (t 62)
  (.seq (.reg [⟨(some 2), none, .mv (k (.bool false))⟩])
  .ret)
  .skip)))
  (.reg [⟨(some 54), none, .mv (t 4)⟩, ⟨(some 55), none, .bin .add (t 54) (k (.int .i64 1))⟩, ⟨(some 4), none, .mv (t 55)⟩]))))))
  (.seq (.reg [⟨(some 63), none, .faddr 2 (t 1)⟩, ⟨(some 64), none, .load false 1 (t 63)⟩, ⟨(some 65), none, .len (t 64)⟩, ⟨(some 66), none, .bin .leq (t 65) (k (.int .i64 20))⟩, ⟨(some 67), none, .mv (t 66)⟩, ⟨(some 68), (some (67, true)), .faddr 1 (t 1)⟩, ⟨(some 69), (some (67, true)), .load false 1 (t 68)⟩, ⟨(some 70), (some (67, true)), .len (t 69)⟩, ⟨(some 71), (some (67, true)), .bin .leq (t 70) (k (.int .i64 20))⟩, ⟨(some 72), none, .pick (t 67) (t 71) (k (.bool false))⟩, ⟨(some 2), none, .mv (t 72)⟩])
  .ret))))
theorem fn13 : Fn Go.Proofs.Try.prog 13 73 [.inl 2] c13 :=
  ⟨⟨_, _, Go.Proofs.Try.func13, rfl, by kernel_rfl, Go.Proofs.Try.ntmps13, by kernel_rfl, ⟨fun f => imp.contains f, false⟩, by kernel_rfl⟩⟩

def c15 : C :=
  (.seq (.reg [⟨(some 3), none, .box (t 1)⟩, ⟨(some 4), none, .mv (k (.int .i64 0))⟩, ⟨(some 5), none, .mv (k (.int .i64 0))⟩])
  (.seq (.reg [⟨(some 13), none, .faddr 0 (t 3)⟩, ⟨(some 14), none, .load false 1 (t 13)⟩, ⟨(some 15), none, .pcall (k (.fn 32 [] [])) [(t 14)]⟩, ⟨(some 6), none, .mv (t 15)⟩])
  (.seq (.seq (.reg [⟨(some 16), none, .mv (t 6)⟩, ⟨(some 17), none, .bin .lss (t 16) (k (.int .i64 0))⟩, ⟨(some 18), none, .mv (t 17)⟩, ⟨(some 19), (some (18, false)), .faddr 7 (t 3)⟩, ⟨(some 20), (some (18, false)), .load false 1 (t 19)⟩, ⟨(some 21), (some (18, false)), .len (t 20)⟩, ⟨(some 22), (some (18, false)), .mv (t 6)⟩, ⟨(some 23), (some (18, false)), .bin .neq (t 21) (t 22)⟩, ⟨(some 24), none, .pick (t 18) (k (.bool true)) (t 23)⟩])
  (.cond (t 24)
  (.seq (.reg [⟨(some 4), none, .mv (k (.int .i64 0))⟩, ⟨(some 5), none, .mv (k (.int .i64 2))⟩])
  .ret)
  .skip))
  (.seq (.seq (.reg [⟨(some 25), none, .mv (t 6)⟩, ⟨(some 26), none, .bin .eql (t 25) (k (.int .i64 0))⟩])
  (.cond (t 26)
  (.seq (.reg [⟨(some 27), none, .mv (t 0)⟩, ⟨(some 28), none, .load true 8 (t 3)⟩, ⟨(some 29), none, .pcall (k (.fn 33 [] [])) [(t 27), (t 28)]⟩, ⟨(some 30), none, .ext 0 (t 29)⟩, ⟨(some 31), none, .ext 1 (t 29)⟩, ⟨(some 4), none, .mv (t 30)⟩, ⟨(some 5), none, .mv (t 31)⟩])
  .ret)
  .skip))
  (.seq (.reg [⟨(some 32), none, .build [(.int .i64 0), (.int .i64 0)] []⟩, ⟨(some 7), none, .alloc [(.int .i64 0), (.int .i64 0)]⟩, ⟨none, none, .store 2 (t 7) (t 32)⟩])
  (.seq (.seq (.reg [⟨(some 8), none, .mv (k (.int .i64 0))⟩])
  (.block 0
  (.loop
  (.seq (.seq (.reg [⟨(some 33), none, .mv (t 8)⟩, ⟨(some 34), none, .mv (t 6)⟩, ⟨(some 35), none, .bin .lss (t 33) (t 34)⟩])
  (.cond (t 35)
  .skip
  (.exit 0)))
  (.seq (.block 1
  (.seq (.reg [⟨(some 39), none, .mv (t 0)⟩, ⟨(some 40), none, .faddr 7 (t 3)⟩, ⟨(some 41), none, .load false 1 (t 40)⟩, ⟨(some 42), none, .mv (t 8)⟩, ⟨(some 43), none, .iaddr 8 (t 41) (t 42)⟩, ⟨(some 44), none, .load true 8 (t 43)⟩, ⟨(some 45), none, .pcall (k (.fn 15 [] [])) [(t 39), (t 44)]⟩, ⟨(some 38), none, .mv (t 45)⟩, ⟨(some 46), none, .ext 0 (t 38)⟩, ⟨(some 47), none, .ext 1 (t 38)⟩, ⟨(some 9), none, .mv (t 46)⟩, ⟨(some 10), none, .mv (t 47)⟩])
  (.seq (.seq (.reg [⟨(some 48), none, .mv (t 10)⟩, ⟨(some 49), none, .bin .neq (t 48) (k (.int .i64 0))⟩])
  (.cond (t 49)
  (.seq (.reg [⟨(some 50), none, .mv (t 10)⟩, ⟨(some 4), none, .mv (k (.int .i64 0))⟩, ⟨(some 5), none, .mv (t 50)⟩])
  .ret)
  .skip))
  (.reg [⟨(some 51), none, .mv (t 8)⟩, ⟨(some 52), none, .mv (t 9)⟩, ⟨(some 53), none, .iarr 1 2 (t 7) (t 51)⟩, ⟨none, none, .store 1 (t 53) (t 52)⟩]))))
  (.reg [⟨(some 36), none, .mv (t 8)⟩, ⟨(some 37), none, .bin .add (t 36) (k (.int .i64 1))⟩, ⟨(some 8), none, .mv (t 37)⟩]))))))
  (.seq (.reg [⟨(some 54), none, .pcall (k (.fn 34 [] [])) []⟩, ⟨(some 11), none, .mv (t 54)⟩])
  (.seq (.seq (.reg [⟨(some 12), none, .mv (k (.int .i64 0))⟩])
  (.block 2
  (.loop
  (.seq (.seq (.reg [⟨(some 55), none, .mv (t 12)⟩, ⟨(some 56), none, .mv (t 11)⟩, ⟨(some 57), none, .len (t 56)⟩, ⟨(some 58), none, .bin .lss (t 55) (t 57)⟩])
  (.cond (t 58)
  .skip
  (.exit 2)))
  (.seq (.block 3
  (.seq (.draw 0 [(⟨(some 61), none, .mv (t 11)⟩, []), (⟨(some 62), none, .mv (t 12)⟩, []), (⟨(some 63), none, .iaddr 4 (t 61) (t 62)⟩, []), (⟨(some 64), none, .faddr 0 (t 63)⟩, []), (⟨(some 65), none, .load false 1 (t 64)⟩, []), (⟨(some 66), none, .faddr 0 (t 3)⟩, []), (⟨(some 67), none, .load false 1 (t 66)⟩, []), (⟨(some 68), none, .bin .eql (t 65) (t 67)⟩, []), (⟨(some 69), none, .mv (t 68)⟩, []), (⟨(some 70), (some (69, true)), .mv (t 11)⟩, []), (⟨(some 71), (some (69, true)), .mv (t 12)⟩, []), (⟨(some 72), (some (69, true)), .iaddr 4 (t 70) (t 71)⟩, []), (⟨(some 73), (some (69, true)), .faddr 1 (t 72)⟩, []), (⟨(some 74), (some (69, true)), .load false 1 (t 73)⟩, []), (⟨(some 75), (some (69, true)), .iarr 1 2 (t 7) (k (.int .i64 0))⟩, []), (⟨(some 76), (some (69, true)), .load false 1 (t 75)⟩, []), (⟨(some 77), (some (69, true)), .bin .eql (t 74) (t 76)⟩, []), (⟨(some 78), none, .pick (t 69) (t 77) (k (.bool false))⟩, []), (⟨(some 79), none, .mv (t 78)⟩, []), (⟨(some 80), (some (79, true)), .mv (t 11)⟩, []), (⟨(some 81), (some (79, true)), .mv (t 12)⟩, []), (⟨(some 82), (some (79, true)), .iaddr 4 (t 80) (t 81)⟩, []), (⟨(some 83), (some (79, true)), .faddr 2 (t 82)⟩, []), (⟨(some 84), (some (79, true)), .load false 1 (t 83)⟩, []), (⟨(some 85), (some (79, true)), .iarr 1 2 (t 7) (k (.int .i64 1))⟩, []), (⟨(some 86), (some (79, true)), .load false 1 (t 85)⟩, []), (⟨(some 87), (some (79, true)), .bin .eql (t 84) (t 86)⟩, []), (⟨(some 88), none, .pick (t 79) (t 87) (k (.bool false))⟩, [])])
  (.cond (t 88)
  (.seq (.reg [⟨(some 89), none, .mv (t 11)⟩, ⟨(some 90), none, .mv (t 12)⟩, ⟨(some 91), none, .iaddr 4 (t 89) (t 90)⟩, ⟨(some 92), none, .faddr 3 (t 91)⟩, ⟨(some 93), none, .load false 1 (t 92)⟩, ⟨(some 4), none, .mv (t 93)⟩, ⟨(some 5), none, .mv (k (.int .i64 0))⟩])
  .ret)
  .skip)))
  (.reg [⟨(some 59), none, .mv (t 12)⟩, ⟨(some 60), none, .bin .add (t 59) (k (.int .i64 1))⟩, ⟨(some 12), none, .mv (t 60)⟩]))))))
  (.seq (.reg [⟨(some 4), none, .mv (k (.int .i64 0))⟩, ⟨(some 5), none, .mv (k (.int .i64 6))⟩])
  .ret)))))))))
theorem fn15 : Fn Go.Proofs.Try.prog 15 94 [.inl 4, .inl 5] c15 :=
  ⟨⟨_, _, Go.Proofs.Try.func15, rfl, by kernel_rfl, Go.Proofs.Try.ntmps15, by kernel_rfl, ⟨fun f => imp.contains f, false⟩, by kernel_rfl⟩⟩

def c34 : C :=
  (.seq (.reg [⟨(some 0), none, .mv (k .nils)⟩])
  (.seq (.reg [⟨(some 4), none, .build [(.str []), (.int .i64 0), (.int .i64 0), (.int .i64 0)] [(0, 1, (k (.str [110, 111, 116]))), (1, 1, (k (.int .i64 1))), (3, 1, (k (.int .i64 1)))]⟩, ⟨(some 5), none, .build [(.str []), (.int .i64 0), (.int .i64 0), (.int .i64 0)] [(0, 1, (k (.str [110, 101, 103]))), (1, 1, (k (.int .i64 2))), (3, 1, (k (.int .i64 2)))]⟩, ⟨(some 6), none, .build [(.str []), (.int .i64 0), (.int .i64 0), (.int .i64 0)] [(0, 1, (k (.str [97, 110, 100]))), (1, 1, (k (.int .i64 1))), (2, 1, (k (.int .i64 1))), (3, 1, (k (.int .i64 1)))]⟩, ⟨(some 7), none, .build [(.str []), (.int .i64 0), (.int .i64 0), (.int .i64 0)] [(0, 1, (k (.str [111, 114]))), (1, 1, (k (.int .i64 1))), (2, 1, (k (.int .i64 1))), (3, 1, (k (.int .i64 1)))]⟩, ⟨(some 8), none, .build [(.str []), (.int .i64 0), (.int .i64 0), (.int .i64 0)] [(0, 1, (k (.str [43]))), (1, 1, (k (.int .i64 2))), (2, 1, (k (.int .i64 2))), (3, 1, (k (.int .i64 2)))]⟩, ⟨(some 9), none, .build [(.str []), (.int .i64 0), (.int .i64 0), (.int .i64 0)] [(0, 1, (k (.str [45]))), (1, 1, (k (.int .i64 2))), (2, 1, (k (.int .i64 2))), (3, 1, (k (.int .i64 2)))]⟩, ⟨(some 10), none, .build [(.str []), (.int .i64 0), (.int .i64 0), (.int .i64 0)] [(0, 1, (k (.str [42]))), (1, 1, (k (.int .i64 2))), (2, 1, (k (.int .i64 2))), (3, 1, (k (.int .i64 2)))]⟩, ⟨(some 11), none, .build [(.str []), (.int .i64 0), (.int .i64 0), (.int .i64 0)] [(0, 1, (k (.str [43]))), (1, 1, (k (.int .i64 4))), (2, 1, (k (.int .i64 2))), (3, 1, (k (.int .i64 4)))]⟩, ⟨(some 12), none, .build [(.str []), (.int .i64 0), (.int .i64 0), (.int .i64 0)] [(0, 1, (k (.str [45]))), (1, 1, (k (.int .i64 4))), (2, 1, (k (.int .i64 2))), (3, 1, (k (.int .i64 4)))]⟩, ⟨(some 13), none, .build [(.str []), (.int .i64 0), (.int .i64 0), (.int .i64 0)] [(0, 1, (k (.str [45]))), (1, 1, (k (.int .i64 4))), (2, 1, (k (.int .i64 4))), (3, 1, (k (.int .i64 2)))]⟩, ⟨(some 14), none, .bsl 4 [(t 4), (t 5), (t 6), (t 7), (t 8), (t 9), (t 10), (t 11), (t 12), (t 13)]⟩, ⟨(some 1), none, .mv (t 14)⟩])
  (.seq (.seq (.reg [⟨(some 2), none, .mv (k (.int .i64 1))⟩])
  (.block 0
  (.loop
  (.seq (.seq (.reg [⟨(some 15), none, .mv (t 2)⟩, ⟨(some 16), none, .bin .leq (t 15) (k (.int .i64 4))⟩])
  (.cond (t 16)
  .skip
  (.exit 0)))
  (.seq (.block 1
  (.reg [⟨(some 19), none, .mv (t 1)⟩, ⟨(some 20), none, .mv (t 2)⟩, ⟨(some 21), none, .bin .add (k (.int .i64 10)) (t 20)⟩, ⟨(some 22), none, .build [(.str []), (.int .i64 0), (.int .i64 0), (.int .i64 0)] [(0, 1, (k (.str [115, 105, 122, 101]))), (1, 1, (t 21)), (3, 1, (k (.int .i64 2)))]⟩, ⟨(some 23), none, .mv (t 2)⟩, ⟨(some 24), none, .mv (t 2)⟩, ⟨(some 25), none, .bin .add (k (.int .i64 10)) (t 24)⟩, ⟨(some 26), none, .build [(.str []), (.int .i64 0), (.int .i64 0), (.int .i64 0)] [(0, 1, (k (.str [105, 110]))), (1, 1, (t 23)), (2, 1, (t 25)), (3, 1, (k (.int .i64 1)))]⟩, ⟨(some 27), none, .mv (t 2)⟩, ⟨(some 28), none, .mv (t 2)⟩, ⟨(some 29), none, .build [(.str []), (.int .i64 0), (.int .i64 0), (.int .i64 0)] [(0, 1, (k (.str [61, 61]))), (1, 1, (t 27)), (2, 1, (t 28)), (3, 1, (k (.int .i64 1)))]⟩, ⟨(some 30), none, .mv (t 2)⟩, ⟨(some 31), none, .mv (t 2)⟩, ⟨(some 32), none, .build [(.str []), (.int .i64 0), (.int .i64 0), (.int .i64 0)] [(0, 1, (k (.str [33, 61]))), (1, 1, (t 30)), (2, 1, (t 31)), (3, 1, (k (.int .i64 1)))]⟩, ⟨(some 33), none, .mv (t 2)⟩, ⟨(some 34), none, .bin .add (k (.int .i64 10)) (t 33)⟩, ⟨(some 35), none, .mv (t 2)⟩, ⟨(some 36), none, .bin .add (k (.int .i64 10)) (t 35)⟩, ⟨(some 37), none, .build [(.str []), (.int .i64 0), (.int .i64 0), (.int .i64 0)] [(0, 1, (k (.str [61, 61]))), (1, 1, (t 34)), (2, 1, (t 36)), (3, 1, (k (.int .i64 1)))]⟩, ⟨(some 38), none, .mv (t 2)⟩, ⟨(some 39), none, .bin .add (k (.int .i64 10)) (t 38)⟩, ⟨(some 40), none, .mv (t 2)⟩, ⟨(some 41), none, .bin .add (k (.int .i64 10)) (t 40)⟩, ⟨(some 42), none, .build [(.str []), (.int .i64 0), (.int .i64 0), (.int .i64 0)] [(0, 1, (k (.str [33, 61]))), (1, 1, (t 39)), (2, 1, (t 41)), (3, 1, (k (.int .i64 1)))]⟩, ⟨(some 43), none, .bsl 4 [(t 22), (t 26), (t 29), (t 32), (t 37), (t 42)]⟩, ⟨(some 44), none, .app false 4 40 (t 19) (t 43)⟩, ⟨(some 1), none, .mv (t 44)⟩]))
  (.reg [⟨(some 17), none, .mv (t 2)⟩, ⟨(some 18), none, .bin .add (t 17) (k (.int .i64 1))⟩, ⟨(some 2), none, .mv (t 18)⟩]))))))
  (.seq (.seq (.reg [⟨(some 3), none, .mv (k (.int .i64 2))⟩])
  (.block 2
  (.loop
  (.seq (.seq (.reg [⟨(some 45), none, .mv (t 3)⟩, ⟨(some 46), none, .bin .leq (t 45) (k (.int .i64 4))⟩])
  (.cond (t 46)
  .skip
  (.exit 2)))
  (.seq (.block 3
  (.reg [⟨(some 49), none, .mv (t 1)⟩, ⟨(some 50), none, .mv (t 3)⟩, ⟨(some 51), none, .mv (t 3)⟩, ⟨(some 52), none, .build [(.str []), (.int .i64 0), (.int .i64 0), (.int .i64 0)] [(0, 1, (k (.str [60]))), (1, 1, (t 50)), (2, 1, (t 51)), (3, 1, (k (.int .i64 1)))]⟩, ⟨(some 53), none, .mv (t 3)⟩, ⟨(some 54), none, .mv (t 3)⟩, ⟨(some 55), none, .build [(.str []), (.int .i64 0), (.int .i64 0), (.int .i64 0)] [(0, 1, (k (.str [60, 61]))), (1, 1, (t 53)), (2, 1, (t 54)), (3, 1, (k (.int .i64 1)))]⟩, ⟨(some 56), none, .mv (t 3)⟩, ⟨(some 57), none, .mv (t 3)⟩, ⟨(some 58), none, .build [(.str []), (.int .i64 0), (.int .i64 0), (.int .i64 0)] [(0, 1, (k (.str [62]))), (1, 1, (t 56)), (2, 1, (t 57)), (3, 1, (k (.int .i64 1)))]⟩, ⟨(some 59), none, .mv (t 3)⟩, ⟨(some 60), none, .mv (t 3)⟩, ⟨(some 61), none, .build [(.str []), (.int .i64 0), (.int .i64 0), (.int .i64 0)] [(0, 1, (k (.str [62, 61]))), (1, 1, (t 59)), (2, 1, (t 60)), (3, 1, (k (.int .i64 1)))]⟩, ⟨(some 62), none, .bsl 4 [(t 52), (t 55), (t 58), (t 61)]⟩, ⟨(some 63), none, .app false 4 40 (t 49) (t 62)⟩, ⟨(some 1), none, .mv (t 63)⟩]))
  (.reg [⟨(some 47), none, .mv (t 3)⟩, ⟨(some 48), none, .bin .add (t 47) (k (.int .i64 1))⟩, ⟨(some 3), none, .mv (t 48)⟩]))))))
  (.seq (.reg [⟨(some 64), none, .mv (t 1)⟩, ⟨(some 0), none, .mv (t 64)⟩])
  .ret)))))
theorem fn34 : Fn Go.Proofs.Try.prog 34 65 [.inl 0] c34 :=
  ⟨⟨_, _, Go.Proofs.Try.func34, rfl, by kernel_rfl, Go.Proofs.Try.ntmps34, by kernel_rfl, ⟨fun f => imp.contains f, false⟩, by kernel_rfl⟩⟩

def c37 : C :=
  (.seq (.reg [⟨(some 1), none, .box (t 0)⟩, ⟨(some 2), none, .mv (k (.bool false))⟩])
  (.seq (.seq (.reg [⟨(some 3), none, .faddr 3 (t 1)⟩, ⟨(some 4), none, .load false 1 (t 3)⟩, ⟨(some 5), none, .len (t 4)⟩, ⟨(some 6), none, .bin .gtr (t 5) (k (.int .i64 0))⟩, ⟨(some 7), none, .mv (t 6)⟩, ⟨(some 8), (some (7, false)), .faddr 0 (t 1)⟩, ⟨(some 9), (some (7, false)), .load false 1 (t 8)⟩, ⟨(some 10), (some (7, false)), .bin .lss (t 9) (k (.int .i64 0))⟩, ⟨(some 11), none, .pick (t 7) (k (.bool true)) (t 10)⟩, ⟨(some 12), none, .mv (t 11)⟩, ⟨(some 13), (some (12, false)), .faddr 0 (t 1)⟩, ⟨(some 14), (some (12, false)), .load false 1 (t 13)⟩, ⟨(some 15), (some (12, false)), .bin .gtr (t 14) (k (.int .i64 4))⟩, ⟨(some 16), none, .pick (t 12) (k (.bool true)) (t 15)⟩])
  (.cond (t 16)
  (.seq (.reg [⟨(some 2), none, .mv (k (.bool false))⟩])
  .ret)
  .skip))
  (.seq (.seq (.reg [⟨(some 17), none, .faddr 0 (t 1)⟩, ⟨(some 18), none, .load false 1 (t 17)⟩, ⟨(some 19), none, .bin .eql (t 18) (k (.int .i64 3))⟩])
  (.cond (t 19)
  (.seq (.reg [⟨(some 20), none, .faddr 1 (t 1)⟩, ⟨(some 21), none, .load false 1 (t 20)⟩, ⟨(some 22), none, .bin .eql (t 21) (k (.int .i64 0))⟩, ⟨(some 23), none, .mv (t 22)⟩, ⟨(some 24), (some (23, true)), .faddr 2 (t 1)⟩, ⟨(some 25), (some (23, true)), .load false 1 (t 24)⟩, ⟨(some 26), (some (23, true)), .lens (t 25)⟩, ⟨(some 27), (some (23, true)), .bin .leq (t 26) (k (.int .i64 64))⟩, ⟨(some 28), none, .pick (t 23) (t 27) (k (.bool false))⟩, ⟨(some 2), none, .mv (t 28)⟩])
  .ret)
  .skip))
  (.seq (.seq (.reg [⟨(some 29), none, .faddr 2 (t 1)⟩, ⟨(some 30), none, .load false 1 (t 29)⟩, ⟨(some 31), none, .bin .neq (t 30) (k (.str []))⟩, ⟨(some 32), none, .mv (t 31)⟩, ⟨(some 33), (some (32, false)), .faddr 0 (t 1)⟩, ⟨(some 34), (some (32, false)), .load false 1 (t 33)⟩, ⟨(some 35), (some (32, false)), .bin .eql (t 34) (k (.int .i64 0))⟩, ⟨(some 36), (some (32, false)), .mv (t 35)⟩, ⟨(some 37), (some (36, true)), .faddr 1 (t 1)⟩, ⟨(some 38), (some (36, true)), .load false 1 (t 37)⟩, ⟨(some 39), (some (36, true)), .bin .neq (t 38) (k (.int .i64 0))⟩, ⟨(some 40), (some (32, false)), .pick (t 36) (t 39) (k (.bool false))⟩, ⟨(some 41), none, .pick (t 32) (k (.bool true)) (t 40)⟩, ⟨(some 42), none, .mv (t 41)⟩, ⟨(some 43), (some (42, false)), .faddr 0 (t 1)⟩, ⟨(some 44), (some (42, false)), .load false 1 (t 43)⟩, ⟨(some 45), (some (42, false)), .bin .eql (t 44) (k (.int .i64 1))⟩, ⟨(some 46), (some (42, false)), .mv (t 45)⟩, ⟨(some 47), (some (46, true)), .faddr 1 (t 1)⟩, ⟨(some 48), (some (46, true)), .load false 1 (t 47)⟩, ⟨(some 49), (some (46, true)), .bin .neq (t 48) (k (.int .i64 0))⟩, ⟨(some 50), (some (42, false)), .pick (t 46) (t 49) (k (.bool false))⟩, ⟨(some 51), (some (42, false)), .mv (t 50)⟩, ⟨(some 52), (some (51, true)), .faddr 1 (t 1)⟩, ⟨(some 53), (some (51, true)), .load false 1 (t 52)⟩, ⟨(some 54), (some (51, true)), .bin .neq (t 53) (k (.int .i64 1))⟩, ⟨(some 55), (some (42, false)), .pick (t 51) (t 54) (k (.bool false))⟩, ⟨(some 56), none, .pick (t 42) (k (.bool true)) (t 55)⟩])
  (.cond (t 56)
  (.seq (.reg [⟨(some 2), none, .mv (k (.bool false))⟩])
  .ret)
  .skip))
  (.seq (.reg [⟨(some 57), none, .faddr 0 (t 1)⟩, ⟨(some 58), none, .load false 1 (t 57)⟩, ⟨(some 59), none, .bin .neq (t 58) (k (.int .i64 4))⟩, ⟨(some 60), none, .mv (t 59)⟩, ⟨(some 61), (some (60, false)), .faddr 1 (t 1)⟩, ⟨(some 62), (some (60, false)), .load false 1 (t 61)⟩, ⟨(some 63), (some (60, false)), .bin .geq (t 62) (k (.int .i64 0))⟩, ⟨(some 64), (some (60, false)), .mv (t 63)⟩, ⟨(some 65), (some (64, true)), .faddr 1 (t 1)⟩, ⟨(some 66), (some (64, true)), .load false 1 (t 65)⟩, ⟨(some 67), (some (64, true)), .bin .leq (t 66) (k (.int .i64 1099511627776))⟩, ⟨(some 68), (some (60, false)), .pick (t 64) (t 67) (k (.bool false))⟩, ⟨(some 69), none, .pick (t 60) (k (.bool true)) (t 68)⟩, ⟨(some 2), none, .mv (t 69)⟩])
  .ret)))))
theorem fn37 : Fn Go.Proofs.Try.prog 37 70 [.inl 2] c37 :=
  ⟨⟨_, _, Go.Proofs.Try.func37, rfl, by kernel_rfl, Go.Proofs.Try.ntmps37, by kernel_rfl, ⟨fun f => imp.contains f, false⟩, by kernel_rfl⟩⟩

def c39 : C :=
  (.seq (.reg [⟨(some 2), none, .box (t 0)⟩, ⟨(some 3), none, .box (t 1)⟩, ⟨(some 4), none, .mv (k (.bool false))⟩, ⟨(some 5), none, .mv (k (.int .i64 0))⟩])
  (.seq (.reg [⟨(some 9), none, .load true 3 (t 2)⟩, ⟨(some 10), none, .load true 8 (t 3)⟩, ⟨(some 11), none, .pcall (k (.fn 36 [] [])) [(t 9), (t 10)]⟩, ⟨(some 8), none, .mv (t 11)⟩, ⟨(some 12), none, .ext 0 (t 8)⟩, ⟨(some 13), none, .ext 1 (t 8)⟩, ⟨(some 6), none, .alloc [(.int .i64 0), (.int .i64 0), (.str []), .nils]⟩, ⟨none, none, .store 4 (t 6) (t 12)⟩, ⟨(some 7), none, .mv (t 13)⟩])
  (.seq (.seq (.reg [⟨(some 14), none, .mv (t 7)⟩, ⟨(some 15), none, .bin .eql (t 14) (k (.int .i64 0))⟩, ⟨(some 16), none, .mv (t 15)⟩, ⟨(some 17), (some (16, true)), .faddr 0 (t 6)⟩, ⟨(some 18), (some (16, true)), .load false 1 (t 17)⟩, ⟨(some 19), (some (16, true)), .bin .neq (t 18) (k (.int .i64 1))⟩, ⟨(some 20), none, .pick (t 16) (t 19) (k (.bool false))⟩])
  (.cond (t 20)
  (.reg [⟨(some 7), none, .mv (k (.int .i64 6))⟩])
  .skip))
  (.seq (.reg [⟨(some 21), none, .mv (t 7)⟩, ⟨(some 22), none, .bin .eql (t 21) (k (.int .i64 0))⟩, ⟨(some 23), none, .mv (t 22)⟩, ⟨(some 24), (some (23, true)), .faddr 1 (t 6)⟩, ⟨(some 25), (some (23, true)), .load false 1 (t 24)⟩, ⟨(some 26), (some (23, true)), .bin .eql (t 25) (k (.int .i64 1))⟩, ⟨(some 27), none, .pick (t 23) (t 26) (k (.bool false))⟩, ⟨(some 28), none, .mv (t 7)⟩, ⟨(some 4), none, .mv (t 27)⟩, ⟨(some 5), none, .mv (t 28)⟩])
  .ret))))
theorem fn39 : Fn Go.Proofs.Try.prog 39 29 [.inl 4, .inl 5] c39 :=
  ⟨⟨_, _, Go.Proofs.Try.func39, rfl, by kernel_rfl, Go.Proofs.Try.ntmps39, by kernel_rfl, ⟨fun f => imp.contains f, false⟩, by kernel_rfl⟩⟩

def c48 : C :=
  (.seq (.reg [⟨(some 4), none, .mv (k (.int .i64 0))⟩])
  (.seq (.block 0
  (.seq (.reg [⟨(some 6), none, .mv (t 0)⟩, ⟨(some 7), none, .bin .eql (t 6) (k (.str [110, 111, 116]))⟩, ⟨(some 8), none, .mv (t 7)⟩, ⟨(some 9), (some (8, true)), .mv (t 1)⟩, ⟨(some 10), (some (8, true)), .bin .eql (t 9) (k (.int .i64 1))⟩, ⟨(some 11), none, .pick (t 8) (t 10) (k (.bool false))⟩, ⟨(some 5), none, .mv (t 11)⟩])
  (.cond (t 5)
  (.seq (.reg [⟨(some 4), none, .mv (k (.int .i64 1))⟩])
  .ret)
  (.seq (.seq (.reg [⟨(some 13), none, .mv (t 0)⟩, ⟨(some 14), none, .bin .eql (t 13) (k (.str [110, 101, 103]))⟩, ⟨(some 15), none, .mv (t 14)⟩, ⟨(some 16), (some (15, true)), .mv (t 1)⟩, ⟨(some 17), (some (15, true)), .bin .eql (t 16) (k (.int .i64 2))⟩, ⟨(some 18), none, .pick (t 15) (t 17) (k (.bool false))⟩, ⟨(some 12), none, .mv (t 18)⟩])
  (.cond (t 12)
  .skip
  (.reg [⟨(some 19), none, .mv (t 0)⟩, ⟨(some 20), none, .bin .eql (t 19) (k (.str [115, 105, 122, 101]))⟩, ⟨(some 21), none, .mv (t 20)⟩, ⟨(some 22), (some (21, true)), .mv (t 1)⟩, ⟨(some 23), (some (21, true)), .bin .gtr (t 22) (k (.int .i64 10))⟩, ⟨(some 24), none, .pick (t 21) (t 23) (k (.bool false))⟩, ⟨(some 12), none, .mv (t 24)⟩])))
  (.cond (t 12)
  (.seq (.reg [⟨(some 4), none, .mv (k (.int .i64 2))⟩])
  .ret)
  .skip)))))
  (.seq (.reg [⟨(some 4), none, .mv (k (.int .i64 0))⟩])
  .ret)))
theorem fn48 : Fn Go.Proofs.Try.prog 48 25 [.inl 4] c48 :=
  ⟨⟨_, _, Go.Proofs.Try.func48, rfl, by kernel_rfl, Go.Proofs.Try.ntmps48, by kernel_rfl, ⟨fun f => imp.contains f, false⟩, by kernel_rfl⟩⟩

def c49 : C :=
  (.seq (.reg [⟨(some 6), none, .mv (k (.int .i64 0))⟩])
  (.seq (.reg [⟨(some 7), none, .mv (k (.bool false))⟩])
  (.seq (.seq (.reg [⟨(some 8), none, .mv (t 0)⟩])
  (.block 0
  (.seq (.seq (.reg [⟨(some 21), none, .bin .eql (t 8) (k (.str [43]))⟩, ⟨(some 20), none, .mv (t 21)⟩])
  (.cond (t 20)
  .skip
  (.seq (.reg [⟨(some 22), none, .bin .eql (t 8) (k (.str [45]))⟩, ⟨(some 20), none, .mv (t 22)⟩])
  (.cond (t 20)
  .skip
  (.reg [⟨(some 23), none, .bin .eql (t 8) (k (.str [42]))⟩, ⟨(some 20), none, .mv (t 23)⟩])))))
  (.cond (t 20)
  (.seq (.reg [⟨(some 24), none, .mv (t 0)⟩, ⟨(some 25), none, .mv (t 1)⟩, ⟨(some 26), none, .mv (t 2)⟩, ⟨(some 27), none, .pcall (k (.fn 69 [] [])) [(t 24), (t 25), (t 26)]⟩, ⟨(some 6), none, .mv (t 27)⟩])
  .ret)
  (.seq (.seq (.reg [⟨(some 29), none, .bin .eql (t 8) (k (.str [97, 110, 100]))⟩, ⟨(some 28), none, .mv (t 29)⟩])
  (.cond (t 28)
  .skip
  (.reg [⟨(some 30), none, .bin .eql (t 8) (k (.str [111, 114]))⟩, ⟨(some 28), none, .mv (t 30)⟩])))
  (.cond (t 28)
  (.reg [⟨(some 31), none, .mv (t 1)⟩, ⟨(some 32), none, .bin .eql (t 31) (k (.int .i64 1))⟩, ⟨(some 33), none, .mv (t 32)⟩, ⟨(some 34), (some (33, true)), .mv (t 2)⟩, ⟨(some 35), (some (33, true)), .bin .eql (t 34) (k (.int .i64 1))⟩, ⟨(some 36), none, .pick (t 33) (t 35) (k (.bool false))⟩, ⟨(some 7), none, .mv (t 36)⟩])
  (.seq (.seq (.reg [⟨(some 38), none, .bin .eql (t 8) (k (.str [61, 61]))⟩, ⟨(some 37), none, .mv (t 38)⟩])
  (.cond (t 37)
  .skip
  (.reg [⟨(some 39), none, .bin .eql (t 8) (k (.str [33, 61]))⟩, ⟨(some 37), none, .mv (t 39)⟩])))
  (.cond (t 37)
  (.reg [⟨(some 40), none, .mv (t 1)⟩, ⟨(some 41), none, .mv (t 2)⟩, ⟨(some 42), none, .bin .eql (t 40) (t 41)⟩, ⟨(some 7), none, .mv (t 42)⟩])
  (.seq (.reg [⟨(some 44), none, .bin .eql (t 8) (k (.str [105, 110]))⟩, ⟨(some 43), none, .mv (t 44)⟩])
  (.cond (t 43)
  (.reg [⟨(some 45), none, .mv (t 2)⟩, ⟨(some 46), none, .mv (t 1)⟩, ⟨(some 47), none, .bin .add (k (.int .i64 10)) (t 46)⟩, ⟨(some 48), none, .bin .eql (t 45) (t 47)⟩, ⟨(some 7), none, .mv (t 48)⟩])
  (.reg [⟨(some 9), none, .mv (t 1)⟩, ⟨(some 10), none, .mv (t 2)⟩, ⟨(some 11), none, .bin .eql (t 9) (t 10)⟩, ⟨(some 12), none, .mv (t 11)⟩, ⟨(some 13), (some (12, true)), .mv (t 1)⟩, ⟨(some 14), (some (12, true)), .bin .neq (t 13) (k (.int .i64 1))⟩, ⟨(some 15), none, .pick (t 12) (t 14) (k (.bool false))⟩, ⟨(some 16), none, .mv (t 15)⟩, ⟨(some 17), (some (16, true)), .mv (t 1)⟩, ⟨(some 18), (some (16, true)), .bin .lss (t 17) (k (.int .i64 10))⟩, ⟨(some 19), none, .pick (t 16) (t 18) (k (.bool false))⟩, ⟨(some 7), none, .mv (t 19)⟩])))))))))))
  (.seq (.seq (.reg [⟨(some 49), none, .mv (t 7)⟩])
  (.cond (t 49)
  (.seq (.reg [⟨(some 6), none, .mv (k (.int .i64 1))⟩])
  .ret)
  .skip))
  (.seq (.reg [⟨(some 6), none, .mv (k (.int .i64 0))⟩])
  .ret)))))
theorem fn49 : Fn Go.Proofs.Try.prog 49 50 [.inl 6] c49 :=
  ⟨⟨_, _, Go.Proofs.Try.func49, rfl, by kernel_rfl, Go.Proofs.Try.ntmps49, by kernel_rfl, ⟨fun f => imp.contains f, false⟩, by kernel_rfl⟩⟩

def c51 : C :=
  (.seq (.reg [⟨(some 1), none, .box (t 0)⟩, ⟨(some 2), none, .mv (k (.bool false))⟩])
  (.seq (.reg [⟨(some 6), none, .faddr 0 (t 1)⟩, ⟨(some 7), none, .load false 1 (t 6)⟩, ⟨(some 8), none, .faddr 1 (t 1)⟩, ⟨(some 9), none, .load true 4 (t 8)⟩, ⟨(some 10), none, .faddr 7 (t 1)⟩, ⟨(some 11), none, .load false 1 (t 10)⟩, ⟨(some 12), none, .build [(.str []), (.int .i64 0), (.int .i64 0), (.str []), .nils, (.str []), (.str []), .nils] [(0, 1, (t 7)), (1, 4, (t 9)), (7, 1, (t 11))]⟩, ⟨(some 13), none, .pcall (k (.fn 30 [] [])) [(k .nils), (t 12)]⟩, ⟨(some 5), none, .mv (t 13)⟩, ⟨(some 14), none, .ext 0 (t 5)⟩, ⟨(some 15), none, .ext 1 (t 5)⟩, ⟨(some 3), none, .mv (t 14)⟩, ⟨(some 4), none, .mv (t 15)⟩])
  (.seq (.seq (.reg [⟨(some 16), none, .mv (t 4)⟩, ⟨(some 17), none, .bin .eql (t 16) (k (.int .i64 2))⟩])
  (.cond (t 17)
  (.seq (.reg [⟨(some 2), none, .mv (k (.bool false))⟩])
  .ret)
  .skip))
  (.seq (.reg [⟨(some 18), none, .faddr 7 (t 1)⟩, ⟨(some 19), none, .load false 1 (t 18)⟩, ⟨(some 20), none, .pcall (k (.fn 70 [] [])) [(t 19), (k (.fn 71 [] []))]⟩, ⟨(some 21), none, .un .not (t 20)⟩, ⟨(some 2), none, .mv (t 21)⟩])
  .ret))))
theorem fn51 : Fn Go.Proofs.Try.prog 51 22 [.inl 2] c51 :=
  ⟨⟨_, _, Go.Proofs.Try.func51, rfl, by kernel_rfl, Go.Proofs.Try.ntmps51, by kernel_rfl, ⟨fun f => imp.contains f, false⟩, by kernel_rfl⟩⟩

def c52 : C :=
  (.seq (.reg [⟨(some 2), none, .box (t 0)⟩, ⟨(some 3), none, .box (t 1)⟩, ⟨(some 4), none, .alloc [(.int .i64 0), (.int .i64 0), (.str []), .nils]⟩, ⟨(some 5), none, .mv (k (.int .i64 0))⟩])
  (.seq (.seq (.reg [⟨(some 8), none, .faddr 0 (t 3)⟩, ⟨(some 9), none, .load false 1 (t 8)⟩])
  (.block 0
  (.seq (.reg [⟨(some 11), none, .bin .eql (t 9) (k (.str [118, 97, 108, 117, 101]))⟩, ⟨(some 10), none, .mv (t 11)⟩])
  (.cond (t 10)
  (.seq (.reg [⟨(some 12), none, .faddr 1 (t 3)⟩, ⟨(some 13), none, .load true 4 (t 12)⟩, ⟨none, none, .store 4 (t 4) (t 13)⟩, ⟨(some 5), none, .mv (k (.int .i64 0))⟩])
  .ret)
  (.seq (.reg [⟨(some 15), none, .bin .eql (t 9) (k (.str [110, 111, 119]))⟩, ⟨(some 14), none, .mv (t 15)⟩])
  (.cond (t 14)
  (.seq (.reg [⟨(some 16), none, .faddr 0 (t 2)⟩, ⟨(some 17), none, .load false 1 (t 16)⟩, ⟨(some 18), none, .build [(.int .i64 0), (.int .i64 0), (.str []), .nils] [(0, 1, (k (.int .i64 4))), (1, 1, (t 17))]⟩, ⟨none, none, .store 4 (t 4) (t 18)⟩, ⟨(some 5), none, .mv (k (.int .i64 0))⟩])
  .ret)
  (.seq (.reg [⟨(some 20), none, .bin .eql (t 9) (k (.str [114, 111, 108, 101]))⟩, ⟨(some 19), none, .mv (t 20)⟩])
  (.cond (t 19)
  (.seq (.reg [⟨(some 21), none, .faddr 1 (t 2)⟩, ⟨(some 22), none, .load false 1 (t 21)⟩, ⟨(some 23), none, .faddr 6 (t 3)⟩, ⟨(some 24), none, .load false 1 (t 23)⟩, ⟨(some 25), none, .pcall (k (.fn 73 [] [])) [(t 22), (t 24)]⟩, ⟨(some 26), none, .pcall (k (.fn 72 [] [])) [(t 25)]⟩, ⟨none, none, .store 4 (t 4) (t 26)⟩, ⟨(some 5), none, .mv (k (.int .i64 0))⟩])
  .ret)
  .skip))))))))
  (.seq (.reg [⟨(some 28), none, .load true 3 (t 2)⟩, ⟨(some 29), none, .faddr 5 (t 3)⟩, ⟨(some 30), none, .load false 1 (t 29)⟩, ⟨(some 31), none, .faddr 6 (t 3)⟩, ⟨(some 32), none, .load false 1 (t 31)⟩, ⟨(some 33), none, .pcall (k (.fn 74 [] [])) [(t 28), (t 30), (t 32)]⟩, ⟨(some 27), none, .mv (t 33)⟩, ⟨(some 34), none, .ext 0 (t 27)⟩, ⟨(some 35), none, .ext 1 (t 27)⟩, ⟨(some 6), none, .alloc [(.int .i64 0), (.int .i64 0), (.str []), .nils]⟩, ⟨none, none, .store 4 (t 6) (t 34)⟩, ⟨(some 7), none, .mv (t 35)⟩])
  (.seq (.block 1
  (.seq (.reg [⟨(some 37), none, .faddr 0 (t 3)⟩, ⟨(some 38), none, .load false 1 (t 37)⟩, ⟨(some 39), none, .bin .eql (t 38) (k (.str [104, 97, 115]))⟩, ⟨(some 36), none, .mv (t 39)⟩])
  (.cond (t 36)
  (.seq (.reg [⟨(some 40), none, .mv (t 7)⟩, ⟨(some 41), none, .pcall (k (.fn 72 [] [])) [(t 40)]⟩, ⟨none, none, .store 4 (t 4) (t 41)⟩, ⟨(some 5), none, .mv (k (.int .i64 0))⟩])
  .ret)
  (.seq (.reg [⟨(some 43), none, .mv (t 7)⟩, ⟨(some 44), none, .un .not (t 43)⟩, ⟨(some 42), none, .mv (t 44)⟩])
  (.cond (t 42)
  (.seq (.reg [⟨(some 45), none, .build [(.int .i64 0), (.int .i64 0), (.str []), .nils] []⟩, ⟨none, none, .store 4 (t 4) (t 45)⟩, ⟨(some 5), none, .mv (k (.int .i64 8))⟩])
  .ret)
  .skip)))))
  (.seq (.reg [⟨(some 46), none, .load true 4 (t 6)⟩, ⟨none, none, .store 4 (t 4) (t 46)⟩, ⟨(some 5), none, .mv (k (.int .i64 0))⟩])
  .ret)))))
theorem fn52 : Fn Go.Proofs.Try.prog 52 47 [.inr (4, true, 4), .inl 5] c52 :=
  ⟨⟨_, _, Go.Proofs.Try.func52, rfl, by kernel_rfl, Go.Proofs.Try.ntmps52, by kernel_rfl, ⟨fun f => imp.contains f, false⟩, by kernel_rfl⟩⟩

def c56 : C :=
  (.seq (.reg [⟨(some 4), none, .mv (k (.int .i64 0))⟩])
  (.seq (.seq (.reg [⟨(some 5), none, .mv (t 0)⟩, ⟨(some 6), none, .mv (t 1)⟩, ⟨(some 7), none, .bin .lss (t 5) (t 6)⟩])
  (.cond (t 7)
  (.seq (.reg [⟨(some 4), none, .mv (k (.int .i64 (-1)))⟩])
  .ret)
  .skip))
  (.seq (.seq (.reg [⟨(some 8), none, .mv (t 0)⟩, ⟨(some 9), none, .mv (t 1)⟩, ⟨(some 10), none, .bin .gtr (t 8) (t 9)⟩])
  (.cond (t 10)
  (.seq (.reg [⟨(some 4), none, .mv (k (.int .i64 1))⟩])
  .ret)
  .skip))
  (.seq (.reg [⟨(some 4), none, .mv (k (.int .i64 0))⟩])
  .ret))))
theorem fn56 : Fn Go.Proofs.Try.prog 56 11 [.inl 4] c56 :=
  ⟨⟨_, _, Go.Proofs.Try.func56, rfl, by kernel_rfl, Go.Proofs.Try.ntmps56, by kernel_rfl, ⟨fun f => imp.contains f, false⟩, by kernel_rfl⟩⟩

def c63 : C :=
  (.seq (.reg [⟨(some 1), none, .box (t 0)⟩, ⟨(some 2), none, .mv (k (.int .i64 0))⟩, ⟨(some 3), none, .mv (k (.bool false))⟩])
  (.seq (.reg [⟨(some 5), none, .faddr 1 (t 1)⟩, ⟨(some 6), none, .load false 1 (t 5)⟩, ⟨(some 7), none, .conv .i64 (t 6)⟩, ⟨(some 4), none, .mv (t 7)⟩])
  (.seq (.draw 0 [(⟨(some 8), none, .mv (t 4)⟩, []), (⟨(some 9), none, .mv (t 4)⟩, []), (⟨(some 10), none, .pcall (k (.fn 60 [] [])) [(t 9)]⟩, []), (⟨(some 11), none, .load true 2 (t 1)⟩, []), (⟨(some 12), none, .eqa [.int, .int] false (t 10) (t 11)⟩, []), (⟨(some 2), none, .mv (t 8)⟩, []), (⟨(some 3), none, .mv (t 12)⟩, [])])
  .ret)))
theorem fn63 : Fn Go.Proofs.Try.prog 63 13 [.inl 2, .inl 3] c63 :=
  ⟨⟨_, _, Go.Proofs.Try.func63, rfl, by kernel_rfl, Go.Proofs.Try.ntmps63, by kernel_rfl, ⟨fun f => imp.contains f, false⟩, by kernel_rfl⟩⟩

def c69 : C :=
  (.seq (.reg [⟨(some 6), none, .mv (k (.int .i64 0))⟩])
  (.seq (.reg [⟨(some 8), none, .mv (t 1)⟩, ⟨(some 9), none, .bin .eql (t 8) (k (.int .i64 2))⟩, ⟨(some 10), none, .mv (t 9)⟩, ⟨(some 11), (some (10, true)), .mv (t 2)⟩, ⟨(some 12), (some (10, true)), .bin .eql (t 11) (k (.int .i64 2))⟩, ⟨(some 13), none, .pick (t 10) (t 12) (k (.bool false))⟩, ⟨(some 7), none, .mv (t 13)⟩])
  (.seq (.block 0
  (.seq (.reg [⟨(some 15), none, .mv (t 7)⟩, ⟨(some 14), none, .mv (t 15)⟩])
  (.cond (t 14)
  (.seq (.reg [⟨(some 6), none, .mv (k (.int .i64 2))⟩])
  .ret)
  (.seq (.reg [⟨(some 17), none, .mv (t 0)⟩, ⟨(some 18), none, .bin .neq (t 17) (k (.str [42]))⟩, ⟨(some 19), none, .mv (t 18)⟩, ⟨(some 20), (some (19, true)), .mv (t 1)⟩, ⟨(some 21), (some (19, true)), .bin .eql (t 20) (k (.int .i64 4))⟩, ⟨(some 22), none, .pick (t 19) (t 21) (k (.bool false))⟩, ⟨(some 23), none, .mv (t 22)⟩, ⟨(some 24), (some (23, true)), .mv (t 2)⟩, ⟨(some 25), (some (23, true)), .bin .eql (t 24) (k (.int .i64 2))⟩, ⟨(some 26), none, .pick (t 23) (t 25) (k (.bool false))⟩, ⟨(some 16), none, .mv (t 26)⟩])
  (.cond (t 16)
  (.seq (.reg [⟨(some 6), none, .mv (k (.int .i64 4))⟩])
  .ret)
  (.seq (.reg [⟨(some 28), none, .mv (t 0)⟩, ⟨(some 29), none, .bin .eql (t 28) (k (.str [45]))⟩, ⟨(some 30), none, .mv (t 29)⟩, ⟨(some 31), (some (30, true)), .mv (t 1)⟩, ⟨(some 32), (some (30, true)), .bin .eql (t 31) (k (.int .i64 4))⟩, ⟨(some 33), none, .pick (t 30) (t 32) (k (.bool false))⟩, ⟨(some 34), none, .mv (t 33)⟩, ⟨(some 35), (some (34, true)), .mv (t 2)⟩, ⟨(some 36), (some (34, true)), .bin .eql (t 35) (k (.int .i64 4))⟩, ⟨(some 37), none, .pick (t 34) (t 36) (k (.bool false))⟩, ⟨(some 27), none, .mv (t 37)⟩])
  (.cond (t 27)
  (.seq (.reg [⟨(some 6), none, .mv (k (.int .i64 2))⟩])
  .ret)
  .skip)))))))
  (.seq (.reg [⟨(some 6), none, .mv (k (.int .i64 0))⟩])
  .ret))))
theorem fn69 : Fn Go.Proofs.Try.prog 69 38 [.inl 6] c69 :=
  ⟨⟨_, _, Go.Proofs.Try.func69, rfl, by kernel_rfl, Go.Proofs.Try.ntmps69, by kernel_rfl, ⟨fun f => imp.contains f, false⟩, by kernel_rfl⟩⟩

def c70 : C :=
  (.seq (.reg [⟨(some 4), none, .mv (k (.bool false))⟩])
  (.seq (.reg [⟨(some 5), none, .mv (t 0)⟩, ⟨(some 6), none, .mv (t 1)⟩, ⟨(some 7), none, .pcall (k (.fn 87 [] [])) [(t 5), (t 6)]⟩, ⟨(some 8), none, .bin .geq (t 7) (k (.int .i64 0))⟩, ⟨(some 4), none, .mv (t 8)⟩])
  .ret))
theorem fn70 : Fn Go.Proofs.Try.prog 70 9 [.inl 4] c70 :=
  ⟨⟨_, _, Go.Proofs.Try.func70, rfl, by kernel_rfl, Go.Proofs.Try.ntmps70, by kernel_rfl, ⟨fun f => imp.contains f, false⟩, by kernel_rfl⟩⟩

def c79 : C :=
  (.seq (.reg [⟨(some 4), none, .alloc [(.int .i64 0), (.int .i64 0), (.str []), .nils]⟩, ⟨(some 5), none, .mv (k (.int .i64 0))⟩])
  (.seq (.seq (.reg [⟨(some 6), none, .mv (t 1)⟩, ⟨(some 7), none, .bin .neq (t 6) (k (.int .i64 0))⟩])
  (.cond (t 7)
  (.seq (.reg [⟨(some 8), none, .build [(.int .i64 0), (.int .i64 0), (.str []), .nils] []⟩, ⟨(some 9), none, .mv (t 1)⟩, ⟨none, none, .store 4 (t 4) (t 8)⟩, ⟨(some 5), none, .mv (t 9)⟩])
  .ret)
  .skip))
  (.seq (.reg [⟨(some 10), none, .mv (t 0)⟩, ⟨(some 11), none, .pcall (k (.fn 72 [] [])) [(t 10)]⟩, ⟨none, none, .store 4 (t 4) (t 11)⟩, ⟨(some 5), none, .mv (k (.int .i64 0))⟩])
  .ret)))
theorem fn79 : Fn Go.Proofs.Try.prog 79 12 [.inr (4, true, 4), .inl 5] c79 :=
  ⟨⟨_, _, Go.Proofs.Try.func79, rfl, by kernel_rfl, Go.Proofs.Try.ntmps79, by kernel_rfl, ⟨fun f => imp.contains f, false⟩, by kernel_rfl⟩⟩

def c88 : C :=
  (.seq (.reg [⟨(some 4), none, .mv (k (.int .i64 0))⟩])
  (.seq (.seq (.reg [⟨(some 6), none, .mv (t 0)⟩, ⟨(some 7), none, .len (t 6)⟩, ⟨(some 8), none, .mv (k (.int .i64 0))⟩])
  (.block 0
  (.loop
  (.seq (.reg [⟨(some 9), none, .bin .lss (t 8) (t 7)⟩])
  (.seq (.cond (t 9)
  .skip
  (.exit 0))
  (.seq (.block 1
  (.seq (.reg [⟨(some 10), none, .mv (t 8)⟩, ⟨(some 5), none, .mv (t 10)⟩])
  (.seq (.reg [⟨(some 11), none, .mv (t 1)⟩, ⟨(some 12), none, .mv (t 0)⟩, ⟨(some 13), none, .mv (t 5)⟩, ⟨(some 14), none, .iaddr 1 (t 12) (t 13)⟩, ⟨(some 15), none, .load false 1 (t 14)⟩, ⟨(some 16), none, .bin .eql (t 11) (t 15)⟩])
  (.cond (t 16)
  (.seq (.reg [⟨(some 17), none, .mv (t 5)⟩, ⟨(some 4), none, .mv (t 17)⟩])
  .ret)
  .skip))))
  (.reg [⟨(some 18), none, .bin .add (t 8) (k (.int .i64 1))⟩, ⟨(some 8), none, .mv (t 18)⟩])))))))
  (.seq (.reg [⟨(some 4), none, .mv (k (.int .i64 (-1)))⟩])
  .ret)))
theorem fn88 : Fn Go.Proofs.Try.prog 88 19 [.inl 4] c88 :=
  ⟨⟨_, _, Go.Proofs.Try.func88, rfl, by kernel_rfl, Go.Proofs.Try.ntmps88, by kernel_rfl, ⟨fun f => imp.contains f, false⟩, by kernel_rfl⟩⟩

def c98 : C :=
  (.seq (.reg [⟨(some 2), none, .box (t 0)⟩, ⟨(some 3), none, .mv (k (.bool false))⟩])
  (.seq (.reg [⟨(some 4), none, .load true 4 (t 2)⟩, ⟨(some 5), none, .load true 4 (t 1)⟩, ⟨(some 6), none, .pcall (k (.fn 59 [] [])) [(t 4), (t 5)]⟩, ⟨(some 7), none, .bin .eql (t 6) (k (.int .i64 0))⟩, ⟨(some 3), none, .mv (t 7)⟩])
  .ret))
theorem fn98 : Fn Go.Proofs.Try.prog 98 8 [.inl 3] c98 :=
  ⟨⟨_, _, Go.Proofs.Try.func98, rfl, by kernel_rfl, Go.Proofs.Try.ntmps98, by kernel_rfl, ⟨fun f => imp.contains f, false⟩, by kernel_rfl⟩⟩

def c102 : C :=
  (.seq (.reg [⟨(some 4), none, .mv (k (.int .u64 0))⟩, ⟨(some 5), none, .mv (k (.int .u64 0))⟩])
  (.seq (.reg [⟨(some 14), none, .mv (t 0)⟩, ⟨(some 15), none, .bin .and (t 14) (k (.int .u64 4294967295))⟩, ⟨(some 6), none, .mv (t 15)⟩])
  (.seq (.reg [⟨(some 16), none, .mv (t 0)⟩, ⟨(some 17), none, .bin .shr (t 16) (k (.int .u64 32))⟩, ⟨(some 7), none, .mv (t 17)⟩])
  (.seq (.reg [⟨(some 18), none, .mv (t 1)⟩, ⟨(some 19), none, .bin .and (t 18) (k (.int .u64 4294967295))⟩, ⟨(some 8), none, .mv (t 19)⟩])
  (.seq (.reg [⟨(some 20), none, .mv (t 1)⟩, ⟨(some 21), none, .bin .shr (t 20) (k (.int .u64 32))⟩, ⟨(some 9), none, .mv (t 21)⟩])
  (.seq (.reg [⟨(some 22), none, .mv (t 6)⟩, ⟨(some 23), none, .mv (t 8)⟩, ⟨(some 24), none, .bin .mul (t 22) (t 23)⟩, ⟨(some 10), none, .mv (t 24)⟩])
  (.seq (.reg [⟨(some 25), none, .mv (t 7)⟩, ⟨(some 26), none, .mv (t 8)⟩, ⟨(some 27), none, .bin .mul (t 25) (t 26)⟩, ⟨(some 28), none, .mv (t 10)⟩, ⟨(some 29), none, .bin .shr (t 28) (k (.int .u64 32))⟩, ⟨(some 30), none, .bin .add (t 27) (t 29)⟩, ⟨(some 11), none, .mv (t 30)⟩])
  (.seq (.reg [⟨(some 31), none, .mv (t 11)⟩, ⟨(some 32), none, .bin .and (t 31) (k (.int .u64 4294967295))⟩, ⟨(some 12), none, .mv (t 32)⟩])
  (.seq (.reg [⟨(some 33), none, .mv (t 11)⟩, ⟨(some 34), none, .bin .shr (t 33) (k (.int .u64 32))⟩, ⟨(some 13), none, .mv (t 34)⟩])
  (.seq (.reg [⟨(some 35), none, .mv (t 12)⟩, ⟨(some 36), none, .mv (t 6)⟩, ⟨(some 37), none, .mv (t 9)⟩, ⟨(some 38), none, .bin .mul (t 36) (t 37)⟩, ⟨(some 39), none, .bin .add (t 35) (t 38)⟩, ⟨(some 12), none, .mv (t 39)⟩])
  (.seq (.reg [⟨(some 40), none, .mv (t 7)⟩, ⟨(some 41), none, .mv (t 9)⟩, ⟨(some 42), none, .bin .mul (t 40) (t 41)⟩, ⟨(some 43), none, .mv (t 13)⟩, ⟨(some 44), none, .bin .add (t 42) (t 43)⟩, ⟨(some 45), none, .mv (t 12)⟩, ⟨(some 46), none, .bin .shr (t 45) (k (.int .u64 32))⟩, ⟨(some 47), none, .bin .add (t 44) (t 46)⟩, ⟨(some 4), none, .mv (t 47)⟩])
  (.seq (.reg [⟨(some 48), none, .mv (t 0)⟩, ⟨(some 49), none, .mv (t 1)⟩, ⟨(some 50), none, .bin .mul (t 48) (t 49)⟩, ⟨(some 5), none, .mv (t 50)⟩])
  .ret))))))))))))
theorem fn102 : Fn Go.Proofs.Try.prog 102 51 [.inl 4, .inl 5] c102 :=
  ⟨⟨_, _, Go.Proofs.Try.func102, rfl, by kernel_rfl, Go.Proofs.Try.ntmps102, by kernel_rfl, ⟨fun f => imp.contains f, false⟩, by kernel_rfl⟩⟩

end GP
