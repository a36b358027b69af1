import Derived.Test.YtnipbngimicldaaGpYe
import Derived.Test.YtnipbngimicldaaGpbi
import Derived.Test.YtnipbngimicldaaProg
namespace GP
open Go Go.Proofs
open Rd O
set_option maxRecDepth 100000
def c3 : C :=
  (.seq (.reg [⟨(some 2), none, .mv (k (.bool false))⟩])
  (.seq (.reg [⟨(some 5), none, .pcall (k (.fn 8 [] [])) []⟩, ⟨(some 6), none, .pcall (k (.fn 9 [] [])) []⟩, ⟨(some 3), none, .mv (t 5)⟩, ⟨(some 4), none, .mv (t 6)⟩])
  (.seq (.draw 0 [(⟨(some 7), none, .pcall (k (.fn 10 [] [])) []⟩, []), (⟨(some 8), none, .mv (t 7)⟩, []), (⟨(some 9), (some (8, true)), .mv (t 3)⟩, []), (⟨(some 10), (some (8, true)), .len (t 9)⟩, []), (⟨(some 11), (some (8, true)), .bin .eql (t 10) (k (.int .i64 6))⟩, []), (⟨(some 12), none, .pick (t 8) (t 11) (k (.bool false))⟩, []), (⟨(some 13), none, .mv (t 12)⟩, []), (⟨(some 14), (some (13, true)), .mv (t 3)⟩, []), (⟨(some 15), (some (13, true)), .mv (t 0)⟩, []), (⟨(some 16), (some (13, true)), .bin .rem (t 15) (k (.int .u8 6))⟩, []), (⟨(some 17), (some (13, true)), .iaddr 1 (t 14) (t 16)⟩, []), (⟨(some 18), (some (13, true)), .load false 1 (t 17)⟩, []), (⟨(some 19), (some (13, true)), .mv (t 4)⟩, []), (⟨(some 20), (some (13, true)), .mv (t 0)⟩, []), (⟨(some 21), (some (13, true)), .bin .rem (t 20) (k (.int .u8 6))⟩, []), (⟨(some 22), (some (13, true)), .iaddr 1 (t 19) (t 21)⟩, []), (⟨(some 23), (some (13, true)), .load false 1 (t 22)⟩, []), (⟨(some 24), (some (13, true)), .bin .eql (t 18) (t 23)⟩, []), (⟨(some 25), none, .pick (t 13) (t 24) (k (.bool false))⟩, []), (⟨(some 2), none, .mv (t 25)⟩, [])])
  .ret)))
theorem fn3 : Fn Go.Proofs.Try.prog 3 26 [.inl 2] c3 :=
  ⟨⟨_, _, Go.Proofs.Try.func3, rfl, by kernel_rfl, Go.Proofs.Try.ntmps3, by kernel_rfl, ⟨fun f => imp.contains f, false⟩, by kernel_rfl⟩⟩

def c7 : C :=
  (.seq (.reg [⟨(some 3), none, .box (t 0)⟩, ⟨(some 4), none, .box (t 1)⟩, ⟨(some 5), none, .box (t 2)⟩, ⟨(some 6), none, .mv (k (.bool false))⟩])
  (.seq (.seq (.reg [⟨(some 17), none, .pcall (k (.fn 11 [] [])) []⟩, ⟨(some 18), none, .un .not (t 17)⟩, ⟨(some 19), none, .mv (t 18)⟩, ⟨(some 20), (some (19, false)), .load true 8 (t 3)⟩, ⟨(some 21), (some (19, false)), .pcall (k (.fn 27 [] [])) [(t 20), (k (.int .i64 40))]⟩, ⟨(some 22), (some (19, false)), .bin .gtr (t 21) (k (.int .i64 40))⟩, ⟨(some 23), none, .pick (t 19) (k (.bool true)) (t 22)⟩, ⟨(some 24), none, .mv (t 23)⟩, ⟨(some 25), (some (24, false)), .load true 8 (t 4)⟩, ⟨(some 26), (some (24, false)), .pcall (k (.fn 27 [] [])) [(t 25), (k (.int .i64 40))]⟩, ⟨(some 27), (some (24, false)), .bin .gtr (t 26) (k (.int .i64 40))⟩, ⟨(some 28), none, .pick (t 24) (k (.bool true)) (t 27)⟩, ⟨(some 29), none, .mv (t 28)⟩, ⟨(some 30), (some (29, false)), .load true 8 (t 3)⟩, ⟨(some 31), (some (29, false)), .pcall (k (.fn 12 [] [])) [(t 30)]⟩, ⟨(some 32), (some (29, false)), .un .not (t 31)⟩, ⟨(some 33), none, .pick (t 29) (k (.bool true)) (t 32)⟩, ⟨(some 34), none, .mv (t 33)⟩, ⟨(some 35), (some (34, false)), .load true 8 (t 4)⟩, ⟨(some 36), (some (34, false)), .pcall (k (.fn 12 [] [])) [(t 35)]⟩, ⟨(some 37), (some (34, false)), .un .not (t 36)⟩, ⟨(some 38), none, .pick (t 34) (k (.bool true)) (t 37)⟩, ⟨(some 39), none, .mv (t 38)⟩, ⟨(some 40), (some (39, false)), .load true 3 (t 5)⟩, ⟨(some 41), (some (39, false)), .pcall (k (.fn 13 [] [])) [(t 40)]⟩, ⟨(some 42), (some (39, false)), .un .not (t 41)⟩, ⟨(some 43), none, .pick (t 39) (k (.bool true)) (t 42)⟩])
  (.cond (t 43)
  (.seq (.reg [⟨(some 44), none, .pcall (k (.fn 11 [] [])) []⟩, ⟨(some 6), none, .mv (t 44)⟩])
  .ret)
  .skip))
  (.seq (.reg [⟨(some 45), none, .load true 8 (t 3)⟩, ⟨(some 46), none, .load true 8 (t 4)⟩, ⟨(some 47), none, .pcall (k (.fn 29 [] [])) [(k (.str [97, 110, 100])), (t 45), (t 46)]⟩, ⟨(some 48), none, .pcall (k (.fn 28 [] [])) [(k (.str [110, 111, 116])), (t 47)]⟩, ⟨(some 7), none, .alloc [(.str []), (.int .i64 0), (.int .i64 0), (.str []), .nils, (.str []), (.str []), .nils]⟩, ⟨none, none, .store 8 (t 7) (t 48)⟩])
  (.seq (.draw 1 [(⟨(some 49), none, .load true 8 (t 3)⟩, []), (⟨(some 50), none, .pcall (k (.fn 28 [] [])) [(k (.str [110, 111, 116])), (t 49)]⟩, []), (⟨(some 51), none, .load true 8 (t 4)⟩, []), (⟨(some 52), none, .pcall (k (.fn 28 [] [])) [(k (.str [110, 111, 116])), (t 51)]⟩, []), (⟨(some 53), none, .pcall (k (.fn 29 [] [])) [(k (.str [111, 114])), (t 50), (t 52)]⟩, []), (⟨(some 8), none, .rawAt 1 [(.str []), (.int .i64 0), (.int .i64 0), (.str []), .nils, (.str []), (.str []), .nils]⟩, []), (⟨none, none, .fillAt 1 8 (t 8) (t 53)⟩, [])])
  (.seq (.reg [⟨(some 55), none, .load true 8 (t 7)⟩, ⟨(some 56), none, .load true 3 (t 5)⟩, ⟨(some 57), none, .pcall (k (.fn 22 [] [])) [(t 55), (t 56)]⟩, ⟨(some 54), none, .mv (t 57)⟩, ⟨(some 58), none, .ext 0 (t 54)⟩, ⟨(some 59), none, .ext 1 (t 54)⟩, ⟨(some 9), none, .mv (t 58)⟩, ⟨(some 10), none, .mv (t 59)⟩])
  (.seq (.reg [⟨(some 61), none, .load true 8 (t 8)⟩, ⟨(some 62), none, .load true 3 (t 5)⟩, ⟨(some 63), none, .pcall (k (.fn 22 [] [])) [(t 61), (t 62)]⟩, ⟨(some 60), none, .mv (t 63)⟩, ⟨(some 64), none, .ext 0 (t 60)⟩, ⟨(some 65), none, .ext 1 (t 60)⟩, ⟨(some 11), none, .mv (t 64)⟩, ⟨(some 12), none, .mv (t 65)⟩])
  (.seq (.draw 0 [(⟨(some 67), none, .load true 8 (t 3)⟩, []), (⟨(some 68), none, .load true 8 (t 4)⟩, []), (⟨(some 69), none, .pcall (k (.fn 29 [] [])) [(k (.str [97, 110, 100])), (t 67), (t 68)]⟩, []), (⟨(some 70), none, .load true 3 (t 5)⟩, []), (⟨(some 71), none, .pcall (k (.fn 22 [] [])) [(t 69), (t 70)]⟩, []), (⟨(some 66), none, .mv (t 71)⟩, []), (⟨(some 72), none, .ext 0 (t 66)⟩, []), (⟨(some 73), none, .ext 1 (t 66)⟩, []), (⟨(some 13), none, .mv (t 72)⟩, []), (⟨(some 14), none, .mv (t 73)⟩, [])])
  (.seq (.draw 0 [(⟨(some 75), none, .load true 8 (t 4)⟩, []), (⟨(some 76), none, .load true 8 (t 3)⟩, []), (⟨(some 77), none, .pcall (k (.fn 29 [] [])) [(k (.str [97, 110, 100])), (t 75), (t 76)]⟩, []), (⟨(some 78), none, .load true 3 (t 5)⟩, []), (⟨(some 79), none, .pcall (k (.fn 22 [] [])) [(t 77), (t 78)]⟩, []), (⟨(some 74), none, .mv (t 79)⟩, []), (⟨(some 80), none, .ext 0 (t 74)⟩, []), (⟨(some 81), none, .ext 1 (t 74)⟩, []), (⟨(some 15), none, .mv (t 80)⟩, []), (⟨(some 16), none, .mv (t 81)⟩, [])])
  (.seq (.reg [⟨(some 82), none, .mv (t 9)⟩, ⟨(some 83), none, .mv (t 11)⟩, ⟨(some 84), none, .eq1 .bool false (t 82) (t 83)⟩, ⟨(some 85), none, .mv (t 84)⟩, ⟨(some 86), (some (85, true)), .mv (t 10)⟩, ⟨(some 87), (some (85, true)), .mv (t 12)⟩, ⟨(some 88), (some (85, true)), .bin .eql (t 86) (t 87)⟩, ⟨(some 89), none, .pick (t 85) (t 88) (k (.bool false))⟩, ⟨(some 90), none, .mv (t 89)⟩, ⟨(some 91), (some (90, true)), .mv (t 13)⟩, ⟨(some 92), (some (90, true)), .mv (t 15)⟩, ⟨(some 93), (some (90, true)), .eq1 .bool false (t 91) (t 92)⟩, ⟨(some 94), none, .pick (t 90) (t 93) (k (.bool false))⟩, ⟨(some 95), none, .mv (t 94)⟩, ⟨(some 96), (some (95, true)), .mv (t 14)⟩, ⟨(some 97), (some (95, true)), .bin .eql (t 96) (k (.int .i64 0))⟩, ⟨(some 98), (some (95, true)), .mv (t 16)⟩, ⟨(some 99), (some (95, true)), .bin .eql (t 98) (k (.int .i64 0))⟩, ⟨(some 100), (some (95, true)), .eq1 .bool false (t 97) (t 99)⟩, ⟨(some 101), none, .pick (t 95) (t 100) (k (.bool false))⟩, ⟨(some 6), none, .mv (t 101)⟩])
  .ret)))))))))
theorem fn7 : Fn Go.Proofs.Try.prog 7 102 [.inl 6] c7 :=
  ⟨⟨_, _, Go.Proofs.Try.func7, rfl, by kernel_rfl, Go.Proofs.Try.ntmps7, by kernel_rfl, ⟨fun f => imp.contains f, false⟩, by kernel_rfl⟩⟩

def c9 : C :=
  (.seq (.reg [⟨(some 0), none, .mv (k .nils)⟩])
  (.seq (.reg [⟨(some 1), none, .bsl 1 [(k (.str [100, 101, 110, 121, 95, 111, 118, 101, 114, 114, 105, 100, 101, 115])), (k (.str [112, 101, 114, 109, 105, 116, 95, 111, 118, 101, 114, 114, 105, 100, 101, 115])), (k (.str [102, 105, 114, 115, 116])), (k (.str [111, 110, 108, 121, 95, 111, 110, 101])), (k (.str [100, 101, 110, 121, 95, 117, 110, 108, 101, 115, 115, 95, 112, 101, 114, 109, 105, 116])), (k (.str [112, 101, 114, 109, 105, 116, 95, 117, 110, 108, 101, 115, 115, 95, 100, 101, 110, 121]))]⟩, ⟨(some 0), none, .mv (t 1)⟩])
  .ret))
theorem fn9 : Fn Go.Proofs.Try.prog 9 2 [.inl 0] c9 :=
  ⟨⟨_, _, Go.Proofs.Try.func9, rfl, by kernel_rfl, Go.Proofs.Try.ntmps9, by kernel_rfl, ⟨fun f => imp.contains f, false⟩, by kernel_rfl⟩⟩

def c12 : C :=
  (.seq (.reg [⟨(some 1), none, .box (t 0)⟩, ⟨(some 2), none, .mv (k (.bool false))⟩])
  (.seq (.reg [⟨(some 3), none, .load true 8 (t 1)⟩, ⟨(some 4), none, .pcall (k (.fn 27 [] [])) [(t 3), (k (.int .i64 60))]⟩, ⟨(some 5), none, .bin .leq (t 4) (k (.int .i64 60))⟩, ⟨(some 6), none, .mv (t 5)⟩, ⟨(some 7), (some (6, true)), .load true 8 (t 1)⟩, ⟨(some 8), (some (6, true)), .pcall (k (.fn 31 [] [])) [(t 7)]⟩, ⟨(some 9), none, .pick (t 6) (t 8) (k (.bool false))⟩, ⟨(some 2), none, .mv (t 9)⟩])
  .ret))
theorem fn12 : Fn Go.Proofs.Try.prog 12 10 [.inl 2] c12 :=
  ⟨⟨_, _, Go.Proofs.Try.func12, rfl, by kernel_rfl, Go.Proofs.Try.ntmps12, by kernel_rfl, ⟨fun f => imp.contains f, false⟩, by kernel_rfl⟩⟩

def c17 : C :=
  (.seq (.reg [⟨(some 2), none, .box (t 0)⟩, ⟨(some 3), none, .box (t 1)⟩, ⟨(some 4), none, .alloc [(.int .i64 0), (.int .i64 0), (.str []), .nils]⟩, ⟨(some 5), none, .mv (k (.int .i64 0))⟩])
  (.seq (.seq (.reg [⟨(some 7), none, .load true 8 (t 2)⟩, ⟨(some 8), none, .load true 3 (t 3)⟩, ⟨(some 9), none, .pcall (k (.fn 35 [] [])) [(t 7), (t 8)]⟩, ⟨(some 6), none, .mv (t 9)⟩])
  (.seq (.reg [⟨(some 10), none, .mv (t 6)⟩, ⟨(some 11), none, .bin .neq (t 10) (k (.int .i64 0))⟩])
  (.cond (t 11)
  (.seq (.reg [⟨(some 12), none, .build [(.int .i64 0), (.int .i64 0), (.str []), .nils] []⟩, ⟨(some 13), none, .mv (t 6)⟩, ⟨none, none, .store 4 (t 4) (t 12)⟩, ⟨(some 5), none, .mv (t 13)⟩])
  .ret)
  .skip)))
  (.seq (.reg [⟨(some 14), none, .load true 3 (t 3)⟩, ⟨(some 15), none, .load true 8 (t 2)⟩, ⟨(some 16), none, .pcall (k (.fn 36 [] [])) [(t 14), (t 15)]⟩, ⟨(some 17), none, .ext 0 (t 16)⟩, ⟨(some 18), none, .ext 1 (t 16)⟩, ⟨none, none, .store 4 (t 4) (t 17)⟩, ⟨(some 5), none, .mv (t 18)⟩])
  .ret)))
theorem fn17 : Fn Go.Proofs.Try.prog 17 19 [.inr (4, true, 4), .inl 5] c17 :=
  ⟨⟨_, _, Go.Proofs.Try.func17, rfl, by kernel_rfl, Go.Proofs.Try.ntmps17, by kernel_rfl, ⟨fun f => imp.contains f, false⟩, by kernel_rfl⟩⟩

def c21 : C :=
  (.seq (.reg [⟨(some 2), none, .box (t 0)⟩, ⟨(some 3), none, .box (t 1)⟩, ⟨(some 4), none, .mv (k (.bool false))⟩])
  (.seq (.seq (.reg [⟨(some 8), none, .faddr 0 (t 2)⟩, ⟨(some 9), none, .load false 1 (t 8)⟩, ⟨(some 10), none, .faddr 0 (t 3)⟩, ⟨(some 11), none, .load false 1 (t 10)⟩, ⟨(some 12), none, .bin .neq (t 9) (t 11)⟩, ⟨(some 13), none, .mv (t 12)⟩, ⟨(some 14), (some (13, false)), .faddr 1 (t 2)⟩, ⟨(some 15), (some (13, false)), .load false 1 (t 14)⟩, ⟨(some 16), (some (13, false)), .faddr 1 (t 3)⟩, ⟨(some 17), (some (13, false)), .load false 1 (t 16)⟩, ⟨(some 18), (some (13, false)), .bin .neq (t 15) (t 17)⟩, ⟨(some 19), none, .pick (t 13) (k (.bool true)) (t 18)⟩, ⟨(some 20), none, .mv (t 19)⟩, ⟨(some 21), (some (20, false)), .faddr 2 (t 2)⟩, ⟨(some 22), (some (20, false)), .load false 1 (t 21)⟩, ⟨(some 23), (some (20, false)), .faddr 2 (t 3)⟩, ⟨(some 24), (some (20, false)), .load false 1 (t 23)⟩, ⟨(some 25), (some (20, false)), .bin .neq (t 22) (t 24)⟩, ⟨(some 26), none, .pick (t 20) (k (.bool true)) (t 25)⟩, ⟨(some 27), none, .mv (t 26)⟩, ⟨(some 28), (some (27, false)), .faddr 3 (t 2)⟩, ⟨(some 29), (some (27, false)), .load false 1 (t 28)⟩, ⟨(some 30), (some (27, false)), .len (t 29)⟩, ⟨(some 31), (some (27, false)), .faddr 3 (t 3)⟩, ⟨(some 32), (some (27, false)), .load false 1 (t 31)⟩, ⟨(some 33), (some (27, false)), .len (t 32)⟩, ⟨(some 34), (some (27, false)), .bin .neq (t 30) (t 33)⟩, ⟨(some 35), none, .pick (t 27) (k (.bool true)) (t 34)⟩])
  (.cond (t 35)
  (.seq (.reg [⟨(some 4), none, .mv (k (.bool false))⟩])
  .ret)
  .skip))
  (.seq (.seq (.reg [⟨(some 5), none, .mv (k (.int .i64 0))⟩])
  (.block 0
  (.loop
  (.seq (.seq (.reg [⟨(some 36), none, .mv (t 5)⟩, ⟨(some 37), none, .faddr 3 (t 2)⟩, ⟨(some 38), none, .load false 1 (t 37)⟩, ⟨(some 39), none, .len (t 38)⟩, ⟨(some 40), none, .bin .lss (t 36) (t 39)⟩])
  (.cond (t 40)
  .skip
  (.exit 0)))
  (.seq (.block 1
  (.seq (.draw 2 [(⟨(some 43), none, .faddr 3 (t 2)⟩, []), (⟨(some 44), none, .load false 1 (t 43)⟩, []), (⟨(some 45), none, .mv (t 5)⟩, []), (⟨(some 46), none, .iaddr 4 (t 44) (t 45)⟩, []), (⟨(some 47), none, .load true 4 (t 46)⟩, []), (⟨(some 48), none, .faddr 3 (t 3)⟩, []), (⟨(some 49), none, .load false 1 (t 48)⟩, []), (⟨(some 50), none, .mv (t 5)⟩, []), (⟨(some 51), none, .iaddr 4 (t 49) (t 50)⟩, []), (⟨(some 52), none, .load true 4 (t 51)⟩, []), (⟨(some 6), none, .rawAt 2 [(.int .i64 0), (.int .i64 0), (.str []), .nils]⟩, []), (⟨(some 7), none, .rawAt 1 [(.int .i64 0), (.int .i64 0), (.str []), .nils]⟩, []), (⟨none, none, .fillAt 2 4 (t 6) (t 47)⟩, []), (⟨none, none, .fillAt 1 4 (t 7) (t 52)⟩, [])])
  (.seq (.reg [⟨(some 53), none, .faddr 0 (t 6)⟩, ⟨(some 54), none, .load false 1 (t 53)⟩, ⟨(some 55), none, .faddr 0 (t 7)⟩, ⟨(some 56), none, .load false 1 (t 55)⟩, ⟨(some 57), none, .bin .neq (t 54) (t 56)⟩, ⟨(some 58), none, .mv (t 57)⟩, ⟨(some 59), (some (58, false)), .faddr 1 (t 6)⟩, ⟨(some 60), (some (58, false)), .load false 1 (t 59)⟩, ⟨(some 61), (some (58, false)), .faddr 1 (t 7)⟩, ⟨(some 62), (some (58, false)), .load false 1 (t 61)⟩, ⟨(some 63), (some (58, false)), .bin .neq (t 60) (t 62)⟩, ⟨(some 64), none, .pick (t 58) (k (.bool true)) (t 63)⟩, ⟨(some 65), none, .mv (t 64)⟩, ⟨(some 66), (some (65, false)), .faddr 2 (t 6)⟩, ⟨(some 67), (some (65, false)), .load false 1 (t 66)⟩, ⟨(some 68), (some (65, false)), .faddr 2 (t 7)⟩, ⟨(some 69), (some (65, false)), .load false 1 (t 68)⟩, ⟨(some 70), (some (65, false)), .bin .neq (t 67) (t 69)⟩, ⟨(some 71), none, .pick (t 65) (k (.bool true)) (t 70)⟩, ⟨(some 72), none, .mv (t 71)⟩, ⟨(some 73), (some (72, false)), .faddr 3 (t 6)⟩, ⟨(some 74), (some (72, false)), .load false 1 (t 73)⟩, ⟨(some 75), (some (72, false)), .len (t 74)⟩, ⟨(some 76), (some (72, false)), .bin .gtr (t 75) (k (.int .i64 0))⟩, ⟨(some 77), none, .pick (t 72) (k (.bool true)) (t 76)⟩, ⟨(some 78), none, .mv (t 77)⟩, ⟨(some 79), (some (78, false)), .faddr 3 (t 7)⟩, ⟨(some 80), (some (78, false)), .load false 1 (t 79)⟩, ⟨(some 81), (some (78, false)), .len (t 80)⟩, ⟨(some 82), (some (78, false)), .bin .gtr (t 81) (k (.int .i64 0))⟩, ⟨(some 83), none, .pick (t 78) (k (.bool true)) (t 82)⟩])
  (.cond (t 83)
  (.seq (.reg [⟨(some 4), none, .mv (k (.bool false))⟩])
  .ret)
  .skip))))
  (.reg [⟨(some 41), none, .mv (t 5)⟩, ⟨(some 42), none, .bin .add (t 41) (k (.int .i64 1))⟩, ⟨(some 5), none, .mv (t 42)⟩]))))))
  (.seq (.reg [⟨(some 4), none, .mv (k (.bool true))⟩])
  .ret))))
theorem fn21 : Fn Go.Proofs.Try.prog 21 84 [.inl 4] c21 :=
  ⟨⟨_, _, Go.Proofs.Try.func21, rfl, by kernel_rfl, Go.Proofs.Try.ntmps21, by kernel_rfl, ⟨fun f => imp.contains f, false⟩, by kernel_rfl⟩⟩

def c24 : C :=
  (.seq (.reg [⟨(some 1), none, .box (t 0)⟩, ⟨(some 2), none, .mv (k (.bool false))⟩])
  (.seq (.seq (.reg [⟨(some 3), none, .mv (k (.int .i64 0))⟩])
  (.block 0
  (.loop
  (.seq (.seq (.reg [⟨(some 4), none, .mv (t 3)⟩, ⟨(some 5), none, .faddr 2 (t 1)⟩, ⟨(some 6), none, .load false 1 (t 5)⟩, ⟨(some 7), none, .len (t 6)⟩, ⟨(some 8), none, .bin .lss (t 4) (t 7)⟩])
  (.cond (t 8)
  .skip
  (.exit 0)))
  (.seq (.block 1
  (.seq (.reg [⟨(some 11), none, .faddr 2 (t 1)⟩, ⟨(some 12), none, .load false 1 (t 11)⟩, ⟨(some 13), none, .mv (t 3)⟩, ⟨(some 14), none, .iaddr 6 (t 12) (t 13)⟩, ⟨(some 15), none, .faddr 2 (t 14)⟩, ⟨(some 16), none, .load true 4 (t 15)⟩, ⟨(some 17), none, .pcall (k (.fn 18 [] [])) [(t 16)]⟩, ⟨(some 18), none, .un .not (t 17)⟩, ⟨(some 19), none, .mv (t 18)⟩, ⟨(some 20), (some (19, false)), .faddr 2 (t 1)⟩, ⟨(some 21), (some (19, false)), .load false 1 (t 20)⟩, ⟨(some 22), (some (19, false)), .mv (t 3)⟩, ⟨(some 23), (some (19, false)), .iaddr 6 (t 21) (t 22)⟩, ⟨(some 24), (some (19, false)), .faddr 2 (t 23)⟩, ⟨(some 25), (some (19, false)), .faddr 0 (t 24)⟩, ⟨(some 26), (some (19, false)), .load false 1 (t 25)⟩, ⟨(some 27), (some (19, false)), .bin .eql (t 26) (k (.int .i64 0))⟩, ⟨(some 28), none, .pick (t 19) (k (.bool true)) (t 27)⟩])
  (.cond (t 28)
  (.seq (.reg [⟨(some 2), none, .mv (k (.bool false))⟩])
  .ret)
  .skip)))
  (.reg [⟨(some 9), none, .mv (t 3)⟩, ⟨(some 10), none, .bin .add (t 9) (k (.int .i64 1))⟩, ⟨(some 3), none, .mv (t 10)⟩]))))))
  (.seq (.reg [⟨(some 29), none, .faddr 0 (t 1)⟩, ⟨(some 30), none, .load false 1 (t 29)⟩, ⟨(some 31), none, .bin .geq (t 30) (k (.int .i64 0))⟩, ⟨(some 32), none, .mv (t 31)⟩, ⟨(some 33), (some (32, true)), .faddr 0 (t 1)⟩, ⟨(some 34), (some (32, true)), .load false 1 (t 33)⟩, ⟨(some 35), (some (32, true)), .bin .leq (t 34) (k (.int .i64 1099511627776))⟩, ⟨(some 36), none, .pick (t 32) (t 35) (k (.bool false))⟩, ⟨(some 2), none, .mv (t 36)⟩])
  .ret)))
theorem fn24 : Fn Go.Proofs.Try.prog 24 37 [.inl 2] c24 :=
  ⟨⟨_, _, Go.Proofs.Try.func24, rfl, by kernel_rfl, Go.Proofs.Try.ntmps24, by kernel_rfl, ⟨fun f => imp.contains f, false⟩, by kernel_rfl⟩⟩

def c25 : C :=
  (.seq (.reg [⟨(some 1), none, .box (t 0)⟩, ⟨(some 2), none, .mv (k (.bool false))⟩])
  (.seq (.reg [⟨(some 3), none, .mv (k (.int .i64 (-1)))⟩])
  (.seq (.seq (.reg [⟨(some 5), none, .faddr 0 (t 1)⟩, ⟨(some 6), none, .load false 1 (t 5)⟩])
  (.block 0
  (.seq (.reg [⟨(some 8), none, .bin .eql (t 6) (k (.str [118, 97, 108, 117, 101]))⟩, ⟨(some 7), none, .mv (t 8)⟩])
  (.cond (t 7)
  (.seq (.seq (.reg [⟨(some 9), none, .faddr 1 (t 1)⟩, ⟨(some 10), none, .load true 4 (t 9)⟩, ⟨(some 11), none, .pcall (k (.fn 18 [] [])) [(t 10)]⟩, ⟨(some 12), none, .un .not (t 11)⟩, ⟨(some 13), none, .mv (t 12)⟩, ⟨(some 14), (some (13, false)), .faddr 1 (t 1)⟩, ⟨(some 15), (some (13, false)), .faddr 0 (t 14)⟩, ⟨(some 16), (some (13, false)), .load false 1 (t 15)⟩, ⟨(some 17), (some (13, false)), .bin .eql (t 16) (k (.int .i64 0))⟩, ⟨(some 18), none, .pick (t 13) (k (.bool true)) (t 17)⟩, ⟨(some 19), none, .mv (t 18)⟩, ⟨(some 20), (some (19, false)), .faddr 1 (t 1)⟩, ⟨(some 21), (some (19, false)), .faddr 0 (t 20)⟩, ⟨(some 22), (some (19, false)), .load false 1 (t 21)⟩, ⟨(some 23), (some (19, false)), .bin .eql (t 22) (k (.int .i64 5))⟩, ⟨(some 24), (some (19, false)), .mv (t 23)⟩, ⟨(some 25), (some (24, true)), .faddr 1 (t 1)⟩, ⟨(some 26), (some (24, true)), .faddr 3 (t 25)⟩, ⟨(some 27), (some (24, true)), .load false 1 (t 26)⟩, ⟨(some 28), (some (24, true)), .len (t 27)⟩, ⟨(some 29), (some (24, true)), .bin .eql (t 28) (k (.int .i64 0))⟩, ⟨(some 30), (some (19, false)), .pick (t 24) (t 29) (k (.bool false))⟩, ⟨(some 31), none, .pick (t 19) (k (.bool true)) (t 30)⟩])
  (.cond (t 31)
  (.seq (.reg [⟨(some 2), none, .mv (k (.bool false))⟩])
  .ret)
  .skip))
  (.reg [⟨(some 3), none, .mv (k (.int .i64 0))⟩]))
  (.seq (.seq (.reg [⟨(some 33), none, .bin .eql (t 6) (k (.str [110, 111, 119]))⟩, ⟨(some 32), none, .mv (t 33)⟩])
  (.cond (t 32)
  .skip
  (.seq (.reg [⟨(some 34), none, .bin .eql (t 6) (k (.str [97, 116, 116, 114]))⟩, ⟨(some 32), none, .mv (t 34)⟩])
  (.cond (t 32)
  .skip
  (.seq (.reg [⟨(some 35), none, .bin .eql (t 6) (k (.str [104, 97, 115]))⟩, ⟨(some 32), none, .mv (t 35)⟩])
  (.cond (t 32)
  .skip
  (.reg [⟨(some 36), none, .bin .eql (t 6) (k (.str [114, 111, 108, 101]))⟩, ⟨(some 32), none, .mv (t 36)⟩])))))))
  (.cond (t 32)
  (.reg [⟨(some 3), none, .mv (k (.int .i64 0))⟩])
  (.seq (.seq (.reg [⟨(some 38), none, .bin .eql (t 6) (k (.str [110, 111, 116]))⟩, ⟨(some 37), none, .mv (t 38)⟩])
  (.cond (t 37)
  .skip
  (.seq (.reg [⟨(some 39), none, .bin .eql (t 6) (k (.str [110, 101, 103]))⟩, ⟨(some 37), none, .mv (t 39)⟩])
  (.cond (t 37)
  .skip
  (.reg [⟨(some 40), none, .bin .eql (t 6) (k (.str [115, 105, 122, 101]))⟩, ⟨(some 37), none, .mv (t 40)⟩])))))
  (.cond (t 37)
  (.reg [⟨(some 3), none, .mv (k (.int .i64 1))⟩])
  (.seq (.seq (.reg [⟨(some 42), none, .bin .eql (t 6) (k (.str [97, 110, 100]))⟩, ⟨(some 41), none, .mv (t 42)⟩])
  (.cond (t 41)
  .skip
  (.seq (.reg [⟨(some 43), none, .bin .eql (t 6) (k (.str [111, 114]))⟩, ⟨(some 41), none, .mv (t 43)⟩])
  (.cond (t 41)
  .skip
  (.seq (.reg [⟨(some 44), none, .bin .eql (t 6) (k (.str [43]))⟩, ⟨(some 41), none, .mv (t 44)⟩])
  (.cond (t 41)
  .skip
  (.seq (.reg [⟨(some 45), none, .bin .eql (t 6) (k (.str [45]))⟩, ⟨(some 41), none, .mv (t 45)⟩])
  (.cond (t 41)
  .skip
  (.seq (.reg [⟨(some 46), none, .bin .eql (t 6) (k (.str [42]))⟩, ⟨(some 41), none, .mv (t 46)⟩])
  (.cond (t 41)
  .skip
  (.seq (.reg [⟨(some 47), none, .bin .eql (t 6) (k (.str [61, 61]))⟩, ⟨(some 41), none, .mv (t 47)⟩])
  (.cond (t 41)
  .skip
  (.seq (.reg [⟨(some 48), none, .bin .eql (t 6) (k (.str [33, 61]))⟩, ⟨(some 41), none, .mv (t 48)⟩])
  (.cond (t 41)
  .skip
  (.seq (.reg [⟨(some 49), none, .bin .eql (t 6) (k (.str [60]))⟩, ⟨(some 41), none, .mv (t 49)⟩])
  (.cond (t 41)
  .skip
  (.seq (.reg [⟨(some 50), none, .bin .eql (t 6) (k (.str [60, 61]))⟩, ⟨(some 41), none, .mv (t 50)⟩])
  (.cond (t 41)
  .skip
  (.seq (.reg [⟨(some 51), none, .bin .eql (t 6) (k (.str [62]))⟩, ⟨(some 41), none, .mv (t 51)⟩])
  (.cond (t 41)
  .skip
  (.seq (.reg [⟨(some 52), none, .bin .eql (t 6) (k (.str [62, 61]))⟩, ⟨(some 41), none, .mv (t 52)⟩])
  (.cond (t 41)
  .skip
  (.reg [⟨(some 53), none, .bin .eql (t 6) (k (.str [105, 110]))⟩, ⟨(some 41), none, .mv (t 53)⟩])))))))))))))))))))))))
  (.cond (t 41)
  (.reg [⟨(some 3), none, .mv (k (.int .i64 2))⟩])
  .skip))))))))))
  (.seq (.seq (.reg [⟨(some 54), none, .faddr 7 (t 1)⟩, ⟨(some 55), none, .load false 1 (t 54)⟩, ⟨(some 56), none, .len (t 55)⟩, ⟨(some 57), none, .mv (t 3)⟩, ⟨(some 58), none, .bin .neq (t 56) (t 57)⟩])
  (.cond (t 58)
  (.seq (.reg [⟨(some 2), none, .mv (k (.bool false))⟩])
  .ret)
  .skip))
  (.seq (.seq (.reg [⟨(some 4), none, .mv (k (.int .i64 0))⟩])
  (.block 1
  (.loop
  (.seq (.seq (.reg [⟨(some 59), none, .mv (t 4)⟩, ⟨(some 60), none, .faddr 7 (t 1)⟩, ⟨(some 61), none, .load false 1 (t 60)⟩, ⟨(some 62), none, .len (t 61)⟩, ⟨(some 63), none, .bin .lss (t 59) (t 62)⟩])
  (.cond (t 63)
  .skip
  (.exit 1)))
  (.seq (.block 2
  (.seq (.reg [⟨(some 66), none, .faddr 7 (t 1)⟩, ⟨(some 67), none, .load false 1 (t 66)⟩, ⟨(some 68), none, .mv (t 4)⟩, ⟨(some 69), none, .iaddr 8 (t 67) (t 68)⟩, ⟨(some 70), none, .load true 8 (t 69)⟩, ⟨(some 71), none, .pcall (k (.fn 25 [] [])) [(t 70)]⟩, ⟨(some 72), none, .un .not (t 71)⟩])
  (.cond (t 72)
  (.seq (.reg [⟨(some 2), none, .mv (k (.bool false))⟩])
  .ret)
  .skip)))
  (.reg [⟨(some 64), none, .mv (t 4)⟩, ⟨(some 65), none, .bin .add (t 64) (k (.int .i64 1))⟩, ⟨(some 4), none, .mv (t 65)⟩]))))))
  (.seq (.reg [⟨(some 2), none, .mv (k (.bool true))⟩])
  .ret))))))
theorem fn25 : Fn Go.Proofs.Try.prog 25 73 [.inl 2] c25 :=
  ⟨⟨_, _, Go.Proofs.Try.func25, rfl, by kernel_rfl, Go.Proofs.Try.ntmps25, by kernel_rfl, ⟨fun f => imp.contains f, false⟩, by kernel_rfl⟩⟩

def c27 : C :=
  (.seq (.reg [⟨(some 2), none, .box (t 0)⟩, ⟨(some 4), none, .mv (k (.int .i64 0))⟩])
  (.seq (.reg [⟨(some 5), none, .mv (k (.int .i64 1))⟩])
  (.seq (.seq (.reg [⟨(some 6), none, .mv (k (.int .i64 0))⟩])
  (.block 0
  (.loop
  (.seq (.seq (.reg [⟨(some 7), none, .mv (t 6)⟩, ⟨(some 8), none, .faddr 7 (t 2)⟩, ⟨(some 9), none, .load false 1 (t 8)⟩, ⟨(some 10), none, .len (t 9)⟩, ⟨(some 11), none, .bin .lss (t 7) (t 10)⟩, ⟨(some 12), none, .mv (t 11)⟩, ⟨(some 13), (some (12, true)), .mv (t 5)⟩, ⟨(some 14), (some (12, true)), .mv (t 1)⟩, ⟨(some 15), (some (12, true)), .bin .leq (t 13) (t 14)⟩, ⟨(some 16), none, .pick (t 12) (t 15) (k (.bool false))⟩])
  (.cond (t 16)
  .skip
  (.exit 0)))
  (.seq (.block 1
  (.reg [⟨(some 19), none, .mv (t 5)⟩, ⟨(some 20), none, .faddr 7 (t 2)⟩, ⟨(some 21), none, .load false 1 (t 20)⟩, ⟨(some 22), none, .mv (t 6)⟩, ⟨(some 23), none, .iaddr 8 (t 21) (t 22)⟩, ⟨(some 24), none, .load true 8 (t 23)⟩, ⟨(some 25), none, .mv (t 1)⟩, ⟨(some 26), none, .mv (t 5)⟩, ⟨(some 27), none, .bin .sub (t 25) (t 26)⟩, ⟨(some 28), none, .pcall (k (.fn 27 [] [])) [(t 24), (t 27)]⟩, ⟨(some 29), none, .bin .add (t 19) (t 28)⟩, ⟨(some 5), none, .mv (t 29)⟩]))
  (.reg [⟨(some 17), none, .mv (t 6)⟩, ⟨(some 18), none, .bin .add (t 17) (k (.int .i64 1))⟩, ⟨(some 6), none, .mv (t 18)⟩]))))))
  (.seq (.reg [⟨(some 30), none, .mv (t 5)⟩, ⟨(some 4), none, .mv (t 30)⟩])
  .ret))))
theorem fn27 : Fn Go.Proofs.Try.prog 27 31 [.inl 4] c27 :=
  ⟨⟨_, _, Go.Proofs.Try.func27, rfl, by kernel_rfl, Go.Proofs.Try.ntmps27, by kernel_rfl, ⟨fun f => imp.contains f, false⟩, by kernel_rfl⟩⟩

def c42 : C :=
  (.seq (.reg [⟨(some 4), none, .box (t 1)⟩, ⟨(some 5), none, .box (t 2)⟩, ⟨(some 6), none, .alloc [(.int .i64 0), (.int .i64 0), (.str []), .nils]⟩, ⟨(some 7), none, .mv (k (.int .i64 0))⟩])
  (.seq (.seq (.reg [⟨(some 8), none, .mv (k (.int .i64 0))⟩])
  (.block 0
  (.loop
  (.seq (.seq (.reg [⟨(some 10), none, .mv (t 8)⟩, ⟨(some 11), none, .bin .lss (t 10) (k (.int .i64 2))⟩])
  (.cond (t 11)
  .skip
  (.exit 0)))
  (.seq (.block 1
  (.seq (.reg [⟨(some 14), none, .mv (t 8)⟩, ⟨(some 15), none, .iarr 1 2 (t 5) (t 14)⟩, ⟨(some 16), none, .load false 1 (t 15)⟩, ⟨(some 17), none, .bin .eql (t 16) (k (.int .i64 0))⟩, ⟨(some 18), none, .mv (t 17)⟩, ⟨(some 19), (some (18, true)), .mv (t 8)⟩, ⟨(some 20), (some (18, true)), .iarr 4 2 (t 4) (t 19)⟩, ⟨(some 21), (some (18, true)), .faddr 0 (t 20)⟩, ⟨(some 22), (some (18, true)), .load false 1 (t 21)⟩, ⟨(some 23), (some (18, true)), .bin .eql (t 22) (k (.int .i64 1))⟩, ⟨(some 24), none, .pick (t 18) (t 23) (k (.bool false))⟩, ⟨(some 25), none, .mv (t 24)⟩, ⟨(some 26), (some (25, true)), .mv (t 8)⟩, ⟨(some 27), (some (25, true)), .iarr 4 2 (t 4) (t 26)⟩, ⟨(some 28), (some (25, true)), .faddr 1 (t 27)⟩, ⟨(some 29), (some (25, true)), .load false 1 (t 28)⟩, ⟨(some 30), (some (25, true)), .bin .eql (t 29) (k (.int .i64 1))⟩, ⟨(some 31), (some (25, true)), .mv (t 0)⟩, ⟨(some 32), (some (25, true)), .eq1 .bool false (t 30) (t 31)⟩, ⟨(some 33), none, .pick (t 25) (t 32) (k (.bool false))⟩])
  (.cond (t 33)
  (.seq (.reg [⟨(some 34), none, .mv (t 0)⟩, ⟨(some 35), none, .pcall (k (.fn 43 [] [])) [(t 34)]⟩, ⟨none, none, .store 4 (t 6) (t 35)⟩, ⟨(some 7), none, .mv (k (.int .i64 0))⟩])
  .ret)
  .skip)))
  (.reg [⟨(some 12), none, .mv (t 8)⟩, ⟨(some 13), none, .bin .add (t 12) (k (.int .i64 1))⟩, ⟨(some 8), none, .mv (t 13)⟩]))))))
  (.seq (.seq (.reg [⟨(some 9), none, .mv (k (.int .i64 0))⟩])
  (.block 2
  (.loop
  (.seq (.seq (.reg [⟨(some 36), none, .mv (t 9)⟩, ⟨(some 37), none, .bin .lss (t 36) (k (.int .i64 2))⟩])
  (.cond (t 37)
  .skip
  (.exit 2)))
  (.seq (.block 3
  (.seq (.seq (.reg [⟨(some 40), none, .mv (t 9)⟩, ⟨(some 41), none, .iarr 1 2 (t 5) (t 40)⟩, ⟨(some 42), none, .load false 1 (t 41)⟩, ⟨(some 43), none, .bin .neq (t 42) (k (.int .i64 0))⟩])
  (.cond (t 43)
  (.seq (.draw 0 [(⟨(some 44), none, .build [(.int .i64 0), (.int .i64 0), (.str []), .nils] []⟩, []), (⟨(some 45), none, .mv (t 9)⟩, []), (⟨(some 46), none, .iarr 1 2 (t 5) (t 45)⟩, []), (⟨(some 47), none, .load false 1 (t 46)⟩, []), (⟨none, none, .store 4 (t 6) (t 44)⟩, [⟨(some 47), none, .load false 1 (t 46)⟩]), (⟨(some 7), none, .mv (t 47)⟩, [])])
  .ret)
  .skip))
  (.seq (.reg [⟨(some 48), none, .mv (t 9)⟩, ⟨(some 49), none, .iarr 4 2 (t 4) (t 48)⟩, ⟨(some 50), none, .faddr 0 (t 49)⟩, ⟨(some 51), none, .load false 1 (t 50)⟩, ⟨(some 52), none, .bin .neq (t 51) (k (.int .i64 1))⟩])
  (.cond (t 52)
  (.seq (.reg [⟨(some 53), none, .build [(.int .i64 0), (.int .i64 0), (.str []), .nils] []⟩, ⟨none, none, .store 4 (t 6) (t 53)⟩, ⟨(some 7), none, .mv (k (.int .i64 6))⟩])
  .ret)
  .skip))))
  (.reg [⟨(some 38), none, .mv (t 9)⟩, ⟨(some 39), none, .bin .add (t 38) (k (.int .i64 1))⟩, ⟨(some 9), none, .mv (t 39)⟩]))))))
  (.seq (.reg [⟨(some 54), none, .mv (t 0)⟩, ⟨(some 55), none, .un .not (t 54)⟩, ⟨(some 56), none, .pcall (k (.fn 43 [] [])) [(t 55)]⟩, ⟨none, none, .store 4 (t 6) (t 56)⟩, ⟨(some 7), none, .mv (k (.int .i64 0))⟩])
  .ret))))
theorem fn42 : Fn Go.Proofs.Try.prog 42 57 [.inr (6, true, 4), .inl 7] c42 :=
  ⟨⟨_, _, Go.Proofs.Try.func42, rfl, by kernel_rfl, Go.Proofs.Try.ntmps42, by kernel_rfl, ⟨fun f => imp.contains f, false⟩, by kernel_rfl⟩⟩

def c53 : C :=
  (.seq (.reg [⟨(some 3), none, .box (t 0)⟩, ⟨(some 4), none, .box (t 1)⟩, ⟨(some 6), none, .alloc [(.int .i64 0), (.int .i64 0), (.str []), .nils]⟩, ⟨(some 7), none, .mv (k (.int .i64 0))⟩])
  (.seq (.draw 0 [(⟨(some 13), none, .load true 3 (t 3)⟩, []), (⟨(some 14), none, .faddr 7 (t 4)⟩, []), (⟨(some 15), none, .load false 1 (t 14)⟩, []), (⟨(some 16), none, .iaddr 8 (t 15) (k (.int .i64 0))⟩, []), (⟨(some 17), none, .load true 8 (t 16)⟩, []), (⟨(some 18), none, .pcall (k (.fn 39 [] [])) [(t 13), (t 17)]⟩, []), (⟨(some 12), none, .mv (t 18)⟩, []), (⟨(some 19), none, .ext 0 (t 12)⟩, []), (⟨(some 20), none, .ext 1 (t 12)⟩, []), (⟨(some 8), none, .mv (t 19)⟩, []), (⟨(some 9), none, .mv (t 20)⟩, [])])
  (.seq (.draw 0 [(⟨(some 22), none, .load true 3 (t 3)⟩, []), (⟨(some 23), none, .faddr 7 (t 4)⟩, []), (⟨(some 24), none, .load false 1 (t 23)⟩, []), (⟨(some 25), none, .iaddr 8 (t 24) (k (.int .i64 1))⟩, []), (⟨(some 26), none, .load true 8 (t 25)⟩, []), (⟨(some 27), none, .pcall (k (.fn 39 [] [])) [(t 22), (t 26)]⟩, []), (⟨(some 21), none, .mv (t 27)⟩, []), (⟨(some 28), none, .ext 0 (t 21)⟩, []), (⟨(some 29), none, .ext 1 (t 21)⟩, []), (⟨(some 10), none, .mv (t 28)⟩, []), (⟨(some 11), none, .mv (t 29)⟩, [])])
  (.seq (.block 0
  (.seq (.seq (.reg [⟨(some 31), none, .mv (t 9)⟩, ⟨(some 32), none, .bin .eql (t 31) (k (.int .i64 0))⟩, ⟨(some 33), none, .mv (t 32)⟩, ⟨(some 34), (some (33, true)), .mv (t 8)⟩, ⟨(some 35), (some (33, true)), .mv (t 2)⟩, ⟨(some 36), (some (33, true)), .eq1 .bool false (t 34) (t 35)⟩, ⟨(some 37), none, .pick (t 33) (t 36) (k (.bool false))⟩, ⟨(some 30), none, .mv (t 37)⟩])
  (.cond (t 30)
  .skip
  (.reg [⟨(some 38), none, .mv (t 11)⟩, ⟨(some 39), none, .bin .eql (t 38) (k (.int .i64 0))⟩, ⟨(some 40), none, .mv (t 39)⟩, ⟨(some 41), (some (40, true)), .mv (t 10)⟩, ⟨(some 42), (some (40, true)), .mv (t 2)⟩, ⟨(some 43), (some (40, true)), .eq1 .bool false (t 41) (t 42)⟩, ⟨(some 44), none, .pick (t 40) (t 43) (k (.bool false))⟩, ⟨(some 30), none, .mv (t 44)⟩])))
  (.cond (t 30)
  (.seq (.reg [⟨(some 45), none, .mv (t 2)⟩, ⟨(some 46), none, .pcall (k (.fn 72 [] [])) [(t 45)]⟩, ⟨none, none, .store 4 (t 6) (t 46)⟩, ⟨(some 7), none, .mv (k (.int .i64 0))⟩])
  .ret)
  (.seq (.reg [⟨(some 48), none, .mv (t 9)⟩, ⟨(some 49), none, .bin .neq (t 48) (k (.int .i64 0))⟩, ⟨(some 47), none, .mv (t 49)⟩])
  (.cond (t 47)
  (.seq (.reg [⟨(some 50), none, .build [(.int .i64 0), (.int .i64 0), (.str []), .nils] []⟩, ⟨(some 51), none, .mv (t 9)⟩, ⟨none, none, .store 4 (t 6) (t 50)⟩, ⟨(some 7), none, .mv (t 51)⟩])
  .ret)
  (.seq (.reg [⟨(some 53), none, .mv (t 11)⟩, ⟨(some 54), none, .bin .neq (t 53) (k (.int .i64 0))⟩, ⟨(some 52), none, .mv (t 54)⟩])
  (.cond (t 52)
  (.seq (.reg [⟨(some 55), none, .build [(.int .i64 0), (.int .i64 0), (.str []), .nils] []⟩, ⟨(some 56), none, .mv (t 11)⟩, ⟨none, none, .store 4 (t 6) (t 55)⟩, ⟨(some 7), none, .mv (t 56)⟩])
  .ret)
  .skip)))))))
  (.seq (.reg [⟨(some 57), none, .mv (t 2)⟩, ⟨(some 58), none, .un .not (t 57)⟩, ⟨(some 59), none, .pcall (k (.fn 72 [] [])) [(t 58)]⟩, ⟨none, none, .store 4 (t 6) (t 59)⟩, ⟨(some 7), none, .mv (k (.int .i64 0))⟩])
  .ret)))))
theorem fn53 : Fn Go.Proofs.Try.prog 53 60 [.inr (6, true, 4), .inl 7] c53 :=
  ⟨⟨_, _, Go.Proofs.Try.func53, rfl, by kernel_rfl, Go.Proofs.Try.ntmps53, by kernel_rfl, ⟨fun f => imp.contains f, false⟩, by kernel_rfl⟩⟩

def c54 : C :=
  (.seq (.reg [⟨(some 3), none, .box (t 1)⟩, ⟨(some 4), none, .alloc [(.int .i64 0), (.int .i64 0), (.str []), .nils]⟩, ⟨(some 5), none, .mv (k (.int .i64 0))⟩])
  (.seq (.block 0
  (.seq (.reg [⟨(some 7), none, .mv (t 0)⟩, ⟨(some 8), none, .bin .eql (t 7) (k (.str [110, 111, 116]))⟩, ⟨(some 9), none, .mv (t 8)⟩, ⟨(some 10), (some (9, true)), .faddr 0 (t 3)⟩, ⟨(some 11), (some (9, true)), .load false 1 (t 10)⟩, ⟨(some 12), (some (9, true)), .bin .eql (t 11) (k (.int .i64 1))⟩, ⟨(some 13), none, .pick (t 9) (t 12) (k (.bool false))⟩, ⟨(some 6), none, .mv (t 13)⟩])
  (.cond (t 6)
  (.seq (.reg [⟨(some 14), none, .faddr 1 (t 3)⟩, ⟨(some 15), none, .load false 1 (t 14)⟩, ⟨(some 16), none, .bin .eql (t 15) (k (.int .i64 0))⟩, ⟨(some 17), none, .pcall (k (.fn 72 [] [])) [(t 16)]⟩, ⟨none, none, .store 4 (t 4) (t 17)⟩, ⟨(some 5), none, .mv (k (.int .i64 0))⟩])
  .ret)
  (.seq (.reg [⟨(some 19), none, .mv (t 0)⟩, ⟨(some 20), none, .bin .eql (t 19) (k (.str [110, 101, 103]))⟩, ⟨(some 21), none, .mv (t 20)⟩, ⟨(some 22), (some (21, true)), .faddr 0 (t 3)⟩, ⟨(some 23), (some (21, true)), .load false 1 (t 22)⟩, ⟨(some 24), (some (21, true)), .bin .eql (t 23) (k (.int .i64 2))⟩, ⟨(some 25), none, .pick (t 21) (t 24) (k (.bool false))⟩, ⟨(some 18), none, .mv (t 25)⟩])
  (.cond (t 18)
  (.seq (.draw 0 [(⟨(some 26), none, .pcall (k (.fn 76 [] [])) [(k (.int .i64 0))]⟩, []), (⟨(some 27), none, .load true 4 (t 3)⟩, []), (⟨(some 28), none, .pcall (k (.fn 75 [] [])) [(t 26), (t 27)]⟩, []), (⟨(some 29), none, .ext 0 (t 28)⟩, []), (⟨(some 30), none, .ext 1 (t 28)⟩, []), (⟨none, none, .store 4 (t 4) (t 29)⟩, []), (⟨(some 5), none, .mv (t 30)⟩, [])])
  .ret)
  (.seq (.reg [⟨(some 32), none, .mv (t 0)⟩, ⟨(some 33), none, .bin .eql (t 32) (k (.str [115, 105, 122, 101]))⟩, ⟨(some 34), none, .mv (t 33)⟩, ⟨(some 35), (some (34, true)), .faddr 0 (t 3)⟩, ⟨(some 36), (some (34, true)), .load false 1 (t 35)⟩, ⟨(some 37), (some (34, true)), .bin .eql (t 36) (k (.int .i64 5))⟩, ⟨(some 38), none, .pick (t 34) (t 37) (k (.bool false))⟩, ⟨(some 31), none, .mv (t 38)⟩])
  (.cond (t 31)
  (.seq (.reg [⟨(some 39), none, .faddr 3 (t 3)⟩, ⟨(some 40), none, .load false 1 (t 39)⟩, ⟨(some 41), none, .len (t 40)⟩, ⟨(some 42), none, .pcall (k (.fn 76 [] [])) [(t 41)]⟩, ⟨none, none, .store 4 (t 4) (t 42)⟩, ⟨(some 5), none, .mv (k (.int .i64 0))⟩])
  .ret)
  .skip)))))))
  (.seq (.reg [⟨(some 43), none, .build [(.int .i64 0), (.int .i64 0), (.str []), .nils] []⟩, ⟨none, none, .store 4 (t 4) (t 43)⟩, ⟨(some 5), none, .mv (k (.int .i64 6))⟩])
  .ret)))
theorem fn54 : Fn Go.Proofs.Try.prog 54 44 [.inr (4, true, 4), .inl 5] c54 :=
  ⟨⟨_, _, Go.Proofs.Try.func54, rfl, by kernel_rfl, Go.Proofs.Try.ntmps54, by kernel_rfl, ⟨fun f => imp.contains f, false⟩, by kernel_rfl⟩⟩

def c57 : C :=
  (.seq (.reg [⟨(some 4), none, .mv (k (.int .i64 0))⟩])
  (.seq (.seq (.reg [⟨(some 5), none, .mv (k (.int .i64 0))⟩])
  (.block 0
  (.loop
  (.seq (.seq (.reg [⟨(some 6), none, .mv (t 5)⟩, ⟨(some 7), none, .mv (t 0)⟩, ⟨(some 8), none, .lens (t 7)⟩, ⟨(some 9), none, .bin .lss (t 6) (t 8)⟩, ⟨(some 10), none, .mv (t 9)⟩, ⟨(some 11), (some (10, true)), .mv (t 5)⟩, ⟨(some 12), (some (10, true)), .mv (t 1)⟩, ⟨(some 13), (some (10, true)), .lens (t 12)⟩, ⟨(some 14), (some (10, true)), .bin .lss (t 11) (t 13)⟩, ⟨(some 15), none, .pick (t 10) (t 14) (k (.bool false))⟩])
  (.cond (t 15)
  .skip
  (.exit 0)))
  (.seq (.block 1
  (.seq (.seq (.draw 0 [(⟨(some 18), none, .mv (t 0)⟩, []), (⟨(some 19), none, .mv (t 5)⟩, []), (⟨(some 20), none, .idxs (t 18) (t 19)⟩, []), (⟨(some 21), none, .mv (t 1)⟩, []), (⟨(some 22), none, .mv (t 5)⟩, []), (⟨(some 23), none, .idxs (t 21) (t 22)⟩, []), (⟨(some 24), none, .bin .lss (t 20) (t 23)⟩, [])])
  (.cond (t 24)
  (.seq (.reg [⟨(some 4), none, .mv (k (.int .i64 (-1)))⟩])
  .ret)
  .skip))
  (.seq (.draw 0 [(⟨(some 25), none, .mv (t 0)⟩, []), (⟨(some 26), none, .mv (t 5)⟩, []), (⟨(some 27), none, .idxs (t 25) (t 26)⟩, []), (⟨(some 28), none, .mv (t 1)⟩, []), (⟨(some 29), none, .mv (t 5)⟩, []), (⟨(some 30), none, .idxs (t 28) (t 29)⟩, []), (⟨(some 31), none, .bin .gtr (t 27) (t 30)⟩, [])])
  (.cond (t 31)
  (.seq (.reg [⟨(some 4), none, .mv (k (.int .i64 1))⟩])
  .ret)
  .skip))))
  (.reg [⟨(some 16), none, .mv (t 5)⟩, ⟨(some 17), none, .bin .add (t 16) (k (.int .i64 1))⟩, ⟨(some 5), none, .mv (t 17)⟩]))))))
  (.seq (.seq (.reg [⟨(some 32), none, .mv (t 0)⟩, ⟨(some 33), none, .lens (t 32)⟩, ⟨(some 34), none, .mv (t 1)⟩, ⟨(some 35), none, .lens (t 34)⟩, ⟨(some 36), none, .bin .lss (t 33) (t 35)⟩])
  (.cond (t 36)
  (.seq (.reg [⟨(some 4), none, .mv (k (.int .i64 (-1)))⟩])
  .ret)
  .skip))
  (.seq (.seq (.reg [⟨(some 37), none, .mv (t 0)⟩, ⟨(some 38), none, .lens (t 37)⟩, ⟨(some 39), none, .mv (t 1)⟩, ⟨(some 40), none, .lens (t 39)⟩, ⟨(some 41), none, .bin .gtr (t 38) (t 40)⟩])
  (.cond (t 41)
  (.seq (.reg [⟨(some 4), none, .mv (k (.int .i64 1))⟩])
  .ret)
  .skip))
  (.seq (.reg [⟨(some 4), none, .mv (k (.int .i64 0))⟩])
  .ret)))))
theorem fn57 : Fn Go.Proofs.Try.prog 57 42 [.inl 4] c57 :=
  ⟨⟨_, _, Go.Proofs.Try.func57, rfl, by kernel_rfl, Go.Proofs.Try.ntmps57, by kernel_rfl, ⟨fun f => imp.contains f, false⟩, by kernel_rfl⟩⟩

def c71 : C :=
  (.seq (.reg [⟨(some 1), none, .box (t 0)⟩, ⟨(some 2), none, .mv (k (.bool false))⟩])
  (.seq (.reg [⟨(some 3), none, .load true 8 (t 1)⟩, ⟨(some 4), none, .pcall (k (.fn 51 [] [])) [(t 3)]⟩, ⟨(some 5), none, .un .not (t 4)⟩, ⟨(some 2), none, .mv (t 5)⟩])
  .ret))
theorem fn71 : Fn Go.Proofs.Try.prog 71 6 [.inl 2] c71 :=
  ⟨⟨_, _, Go.Proofs.Try.func71, rfl, by kernel_rfl, Go.Proofs.Try.ntmps71, by kernel_rfl, ⟨fun f => imp.contains f, false⟩, by kernel_rfl⟩⟩

def c76 : C :=
  (.seq (.reg [⟨(some 2), none, .alloc [(.int .i64 0), (.int .i64 0), (.str []), .nils]⟩])
  (.seq (.reg [⟨(some 3), none, .mv (t 0)⟩, ⟨(some 4), none, .build [(.int .i64 0), (.int .i64 0), (.str []), .nils] [(0, 1, (k (.int .i64 2))), (1, 1, (t 3))]⟩, ⟨none, none, .store 4 (t 2) (t 4)⟩])
  .ret))
theorem fn76 : Fn Go.Proofs.Try.prog 76 5 [.inr (2, true, 4)] c76 :=
  ⟨⟨_, _, Go.Proofs.Try.func76, rfl, by kernel_rfl, Go.Proofs.Try.ntmps76, by kernel_rfl, ⟨fun f => imp.contains f, false⟩, by kernel_rfl⟩⟩

def c89 : C :=
  (.seq (.reg [⟨(some 4), none, .mv (k (.int .i64 0))⟩])
  (.seq (.seq (.reg [⟨(some 6), none, .mv (t 0)⟩, ⟨(some 7), none, .len (t 6)⟩, ⟨(some 8), none, .mv (k (.int .i64 0))⟩])
  (.block 0
  (.loop
  (.seq (.reg [⟨(some 9), none, .bin .lss (t 8) (t 7)⟩])
  (.seq (.cond (t 9)
  .skip
  (.exit 0))
  (.seq (.block 1
  (.seq (.reg [⟨(some 10), none, .mv (t 8)⟩, ⟨(some 5), none, .mv (t 10)⟩])
  (.seq (.reg [⟨(some 11), none, .mv (t 1)⟩, ⟨(some 12), none, .mv (t 0)⟩, ⟨(some 13), none, .mv (t 5)⟩, ⟨(some 14), none, .iaddr 6 (t 12) (t 13)⟩, ⟨(some 15), none, .load true 6 (t 14)⟩, ⟨(some 16), none, .pcall (t 11) [(t 15)]⟩])
  (.cond (t 16)
  (.seq (.reg [⟨(some 17), none, .mv (t 5)⟩, ⟨(some 4), none, .mv (t 17)⟩])
  .ret)
  .skip))))
  (.reg [⟨(some 18), none, .bin .add (t 8) (k (.int .i64 1))⟩, ⟨(some 8), none, .mv (t 18)⟩])))))))
  (.seq (.reg [⟨(some 4), none, .mv (k (.int .i64 (-1)))⟩])
  .ret)))
theorem fn89 : Fn Go.Proofs.Try.prog 89 19 [.inl 4] c89 :=
  ⟨⟨_, _, Go.Proofs.Try.func89, rfl, by kernel_rfl, Go.Proofs.Try.ntmps89, by kernel_rfl, ⟨fun f => imp.contains f, false⟩, by kernel_rfl⟩⟩

def c93 : C :=
  (.seq (.reg [⟨(some 4), none, .mv (k (.int .i64 0))⟩, ⟨(some 5), none, .mv (k (.bool false))⟩])
  (.seq (.reg [⟨(some 7), none, .mv (t 0)⟩, ⟨(some 8), none, .mv (t 1)⟩, ⟨(some 9), none, .bin .sub (t 7) (t 8)⟩, ⟨(some 6), none, .mv (t 9)⟩])
  (.seq (.reg [⟨(some 10), none, .mv (t 6)⟩, ⟨(some 11), none, .mv (t 0)⟩, ⟨(some 12), none, .bin .lss (t 11) (k (.int .i64 0))⟩, ⟨(some 13), none, .mv (t 1)⟩, ⟨(some 14), none, .bin .lss (t 13) (k (.int .i64 0))⟩, ⟨(some 15), none, .eq1 .bool false (t 12) (t 14)⟩, ⟨(some 16), none, .mv (t 15)⟩, ⟨(some 17), (some (16, false)), .mv (t 6)⟩, ⟨(some 18), (some (16, false)), .bin .lss (t 17) (k (.int .i64 0))⟩, ⟨(some 19), (some (16, false)), .mv (t 0)⟩, ⟨(some 20), (some (16, false)), .bin .lss (t 19) (k (.int .i64 0))⟩, ⟨(some 21), (some (16, false)), .eq1 .bool false (t 18) (t 20)⟩, ⟨(some 22), none, .pick (t 16) (k (.bool true)) (t 21)⟩, ⟨(some 4), none, .mv (t 10)⟩, ⟨(some 5), none, .mv (t 22)⟩])
  .ret)))
theorem fn93 : Fn Go.Proofs.Try.prog 93 23 [.inl 4, .inl 5] c93 :=
  ⟨⟨_, _, Go.Proofs.Try.func93, rfl, by kernel_rfl, Go.Proofs.Try.ntmps93, by kernel_rfl, ⟨fun f => imp.contains f, false⟩, by kernel_rfl⟩⟩

end GP
