import Derived.Test.YtnipbngimicldaaGpYe
import Derived.Test.YtnipbngimicldaaGpbi
import Derived.Test.YtnipbngimicldaaProg
namespace GP
open Go Go.Proofs
open Rd O
set_option maxRecDepth 100000
def c5 : C :=
  (.seq (.reg [⟨(some 3), none, .box (t 0)⟩, ⟨(some 4), none, .box (t 1)⟩, ⟨(some 5), none, .box (t 2)⟩, ⟨(some 6), none, .mv (k (.bool false))⟩])
  (.seq (.seq (.reg [⟨(some 12), none, .pcall (k (.fn 11 [] [])) []⟩, ⟨(some 13), none, .un .not (t 12)⟩, ⟨(some 14), none, .mv (t 13)⟩, ⟨(some 15), (some (14, false)), .load true 8 (t 3)⟩, ⟨(some 16), (some (14, false)), .pcall (k (.fn 12 [] [])) [(t 15)]⟩, ⟨(some 17), (some (14, false)), .un .not (t 16)⟩, ⟨(some 18), none, .pick (t 14) (k (.bool true)) (t 17)⟩, ⟨(some 19), none, .mv (t 18)⟩, ⟨(some 20), (some (19, false)), .load true 3 (t 4)⟩, ⟨(some 21), (some (19, false)), .pcall (k (.fn 13 [] [])) [(t 20)]⟩, ⟨(some 22), (some (19, false)), .un .not (t 21)⟩, ⟨(some 23), none, .pick (t 19) (k (.bool true)) (t 22)⟩, ⟨(some 24), none, .mv (t 23)⟩, ⟨(some 25), (some (24, false)), .faddr 2 (t 4)⟩, ⟨(some 26), (some (24, false)), .load false 1 (t 25)⟩, ⟨(some 27), (some (24, false)), .len (t 26)⟩, ⟨(some 28), (some (24, false)), .bin .gtr (t 27) (k (.int .i64 19))⟩, ⟨(some 29), none, .pick (t 24) (k (.bool true)) (t 28)⟩, ⟨(some 30), none, .mv (t 29)⟩, ⟨(some 31), (some (30, false)), .load true 4 (t 5)⟩, ⟨(some 32), (some (30, false)), .bsl 4 [(t 31)]⟩, ⟨(some 33), (some (30, false)), .pcall (k (.fn 19 [] [])) [(t 32), (k (.int .i64 1))]⟩, ⟨(some 34), (some (30, false)), .un .not (t 33)⟩, ⟨(some 35), none, .pick (t 30) (k (.bool true)) (t 34)⟩, ⟨(some 36), none, .mv (t 35)⟩, ⟨(some 37), (some (36, false)), .load true 4 (t 5)⟩, ⟨(some 38), (some (36, false)), .pcall (k (.fn 18 [] [])) [(t 37)]⟩, ⟨(some 39), (some (36, false)), .un .not (t 38)⟩, ⟨(some 40), none, .pick (t 36) (k (.bool true)) (t 39)⟩, ⟨(some 41), none, .mv (t 40)⟩, ⟨(some 42), (some (41, false)), .faddr 0 (t 5)⟩, ⟨(some 43), (some (41, false)), .load false 1 (t 42)⟩, ⟨(some 44), (some (41, false)), .bin .eql (t 43) (k (.int .i64 0))⟩, ⟨(some 45), none, .pick (t 41) (k (.bool true)) (t 44)⟩])
  (.cond (t 45)
  (.seq (.reg [⟨(some 46), none, .pcall (k (.fn 11 [] [])) []⟩, ⟨(some 6), none, .mv (t 46)⟩])
  .ret)
  .skip))
  (.seq (.reg [⟨(some 48), none, .load true 8 (t 3)⟩, ⟨(some 49), none, .load true 3 (t 4)⟩, ⟨(some 50), none, .pcall (k (.fn 17 [] [])) [(t 48), (t 49)]⟩, ⟨(some 47), none, .mv (t 50)⟩, ⟨(some 51), none, .ext 0 (t 47)⟩, ⟨(some 52), none, .ext 1 (t 47)⟩, ⟨(some 7), none, .alloc [(.int .i64 0), (.int .i64 0), (.str []), .nils]⟩, ⟨none, none, .store 4 (t 7) (t 51)⟩, ⟨(some 8), none, .mv (t 52)⟩])
  (.seq (.reg [⟨(some 53), none, .load true 3 (t 4)⟩, ⟨(some 9), none, .alloc [(.int .i64 0), .nils, .nils]⟩, ⟨none, none, .store 3 (t 9) (t 53)⟩])
  (.seq (.draw 0 [(⟨(some 54), none, .bslq 6 []⟩, []), (⟨(some 55), none, .faddr 2 (t 4)⟩, []), (⟨(some 56), none, .load false 1 (t 55)⟩, []), (⟨(some 58), none, .load true 4 (t 5)⟩, []), (⟨(some 59), none, .build [(.str []), (.str []), (.int .i64 0), (.int .i64 0), (.str []), .nils] [(0, 1, (k (.str [110, 111, 98, 111, 100, 121]))), (1, 1, (k (.str [65]))), (2, 4, (t 58))]⟩, []), (⟨(some 60), none, .bslq 6 [(t 59)]⟩, []), (⟨(some 57), none, .app false 6 88 (t 54) (t 56)⟩, []), (⟨(some 61), none, .app false 6 88 (t 57) (t 60)⟩, []), (⟨(some 62), none, .faddr 2 (t 9)⟩, []), (⟨none, none, .store 1 (t 62) (t 61)⟩, [])])
  (.seq (.seq (.reg [⟨(some 63), none, .load true 8 (t 3)⟩, ⟨(some 64), none, .pcall (k (.fn 20 [] [])) [(t 63)]⟩])
  (.cond (t 64)
  (.seq (.reg [⟨(some 6), none, .mv (k (.bool true))⟩])
  .ret)
  .skip))
  (.seq (.reg [⟨(some 66), none, .load true 8 (t 3)⟩, ⟨(some 67), none, .load true 3 (t 9)⟩, ⟨(some 68), none, .pcall (k (.fn 17 [] [])) [(t 66), (t 67)]⟩, ⟨(some 65), none, .mv (t 68)⟩, ⟨(some 69), none, .ext 0 (t 65)⟩, ⟨(some 70), none, .ext 1 (t 65)⟩, ⟨(some 10), none, .alloc [(.int .i64 0), (.int .i64 0), (.str []), .nils]⟩, ⟨none, none, .store 4 (t 10) (t 69)⟩, ⟨(some 11), none, .mv (t 70)⟩])
  (.seq (.reg [⟨(some 71), none, .mv (t 8)⟩, ⟨(some 72), none, .mv (t 11)⟩, ⟨(some 73), none, .bin .eql (t 71) (t 72)⟩, ⟨(some 74), none, .mv (t 73)⟩, ⟨(some 75), (some (74, true)), .load true 4 (t 7)⟩, ⟨(some 76), (some (74, true)), .load true 4 (t 10)⟩, ⟨(some 77), (some (74, true)), .pcall (k (.fn 21 [] [])) [(t 75), (t 76)]⟩, ⟨(some 78), none, .pick (t 74) (t 77) (k (.bool false))⟩, ⟨(some 6), none, .mv (t 78)⟩])
  .ret))))))))
theorem fn5 : Fn Go.Proofs.Try.prog 5 79 [.inl 6] c5 :=
  ⟨⟨_, _, Go.Proofs.Try.func5, rfl, by kernel_rfl, Go.Proofs.Try.ntmps5, by kernel_rfl, ⟨fun f => imp.contains f, false⟩, by kernel_rfl⟩⟩

def c6 : C :=
  (.seq (.reg [⟨(some 2), none, .box (t 0)⟩, ⟨(some 3), none, .box (t 1)⟩, ⟨(some 4), none, .mv (k (.bool false))⟩])
  (.seq (.seq (.reg [⟨(some 11), none, .pcall (k (.fn 11 [] [])) []⟩, ⟨(some 12), none, .un .not (t 11)⟩, ⟨(some 13), none, .mv (t 12)⟩, ⟨(some 14), (some (13, false)), .load true 8 (t 2)⟩, ⟨(some 15), (some (13, false)), .pcall (k (.fn 12 [] [])) [(t 14)]⟩, ⟨(some 16), (some (13, false)), .un .not (t 15)⟩, ⟨(some 17), none, .pick (t 13) (k (.bool true)) (t 16)⟩, ⟨(some 18), none, .mv (t 17)⟩, ⟨(some 19), (some (18, false)), .load true 3 (t 3)⟩, ⟨(some 20), (some (18, false)), .pcall (k (.fn 13 [] [])) [(t 19)]⟩, ⟨(some 21), (some (18, false)), .un .not (t 20)⟩, ⟨(some 22), none, .pick (t 18) (k (.bool true)) (t 21)⟩])
  (.cond (t 22)
  (.seq (.reg [⟨(some 23), none, .pcall (k (.fn 11 [] [])) []⟩, ⟨(some 4), none, .mv (t 23)⟩])
  .ret)
  .skip))
  (.seq (.reg [⟨(some 25), none, .load true 8 (t 2)⟩, ⟨(some 26), none, .load true 3 (t 3)⟩, ⟨(some 27), none, .pcall (k (.fn 17 [] [])) [(t 25), (t 26)]⟩, ⟨(some 24), none, .mv (t 27)⟩, ⟨(some 28), none, .ext 0 (t 24)⟩, ⟨(some 29), none, .ext 1 (t 24)⟩, ⟨(some 5), none, .alloc [(.int .i64 0), (.int .i64 0), (.str []), .nils]⟩, ⟨none, none, .store 4 (t 5) (t 28)⟩, ⟨(some 6), none, .mv (t 29)⟩])
  (.seq (.reg [⟨(some 31), none, .load true 8 (t 2)⟩, ⟨(some 32), none, .load true 3 (t 3)⟩, ⟨(some 33), none, .pcall (k (.fn 22 [] [])) [(t 31), (t 32)]⟩, ⟨(some 30), none, .mv (t 33)⟩, ⟨(some 34), none, .ext 0 (t 30)⟩, ⟨(some 35), none, .ext 1 (t 30)⟩, ⟨(some 7), none, .mv (t 34)⟩, ⟨(some 8), none, .mv (t 35)⟩])
  (.seq (.seq (.draw 0 [(⟨(some 36), none, .load true 3 (t 3)⟩, []), (⟨(some 37), none, .pcall (k (.fn 23 [] [])) [(t 36)]⟩, []), (⟨(some 38), none, .load true 3 (t 3)⟩, []), (⟨(some 39), none, .pcall (k (.fn 24 [] [])) [(t 38)]⟩, []), (⟨(some 40), none, .eq1 .bool true (t 37) (t 39)⟩, [])])
  (.cond (t 40)
  (.seq (.reg [⟨(some 4), none, .mv (k (.bool false))⟩])
  .ret)
  .skip))
  (.seq (.seq (.reg [⟨(some 41), none, .load true 3 (t 3)⟩, ⟨(some 42), none, .pcall (k (.fn 24 [] [])) [(t 41)]⟩, ⟨(some 43), none, .un .not (t 42)⟩])
  (.cond (t 43)
  (.seq (.reg [⟨(some 44), none, .mv (t 6)⟩, ⟨(some 45), none, .bin .eql (t 44) (k (.int .i64 1))⟩, ⟨(some 46), none, .mv (t 45)⟩, ⟨(some 47), (some (46, true)), .mv (t 8)⟩, ⟨(some 48), (some (46, true)), .bin .eql (t 47) (k (.int .i64 1))⟩, ⟨(some 49), none, .pick (t 46) (t 48) (k (.bool false))⟩, ⟨(some 50), none, .mv (t 49)⟩, ⟨(some 51), (some (50, true)), .mv (t 7)⟩, ⟨(some 52), (some (50, true)), .un .not (t 51)⟩, ⟨(some 53), none, .pick (t 50) (t 52) (k (.bool false))⟩, ⟨(some 54), none, .mv (t 53)⟩, ⟨(some 55), (some (54, true)), .load true 4 (t 5)⟩, ⟨(some 56), (some (54, true)), .build [(.int .i64 0), (.int .i64 0), (.str []), .nils] []⟩, ⟨(some 57), (some (54, true)), .pcall (k (.fn 21 [] [])) [(t 55), (t 56)]⟩, ⟨(some 58), none, .pick (t 54) (t 57) (k (.bool false))⟩, ⟨(some 4), none, .mv (t 58)⟩])
  .ret)
  .skip))
  (.seq (.seq (.reg [⟨(some 59), none, .load true 8 (t 2)⟩, ⟨(some 60), none, .pcall (k (.fn 25 [] [])) [(t 59)]⟩, ⟨(some 61), none, .un .not (t 60)⟩])
  (.cond (t 61)
  (.seq (.reg [⟨(some 62), none, .mv (t 6)⟩, ⟨(some 63), none, .bin .eql (t 62) (k (.int .i64 2))⟩, ⟨(some 64), none, .mv (t 63)⟩, ⟨(some 65), (some (64, true)), .mv (t 8)⟩, ⟨(some 66), (some (64, true)), .bin .eql (t 65) (k (.int .i64 2))⟩, ⟨(some 67), none, .pick (t 64) (t 66) (k (.bool false))⟩, ⟨(some 68), none, .mv (t 67)⟩, ⟨(some 69), (some (68, true)), .mv (t 7)⟩, ⟨(some 70), (some (68, true)), .un .not (t 69)⟩, ⟨(some 71), none, .pick (t 68) (t 70) (k (.bool false))⟩, ⟨(some 72), none, .mv (t 71)⟩, ⟨(some 73), (some (72, true)), .load true 4 (t 5)⟩, ⟨(some 74), (some (72, true)), .build [(.int .i64 0), (.int .i64 0), (.str []), .nils] []⟩, ⟨(some 75), (some (72, true)), .pcall (k (.fn 21 [] [])) [(t 73), (t 74)]⟩, ⟨(some 76), none, .pick (t 72) (t 75) (k (.bool false))⟩, ⟨(some 4), none, .mv (t 76)⟩])
  .ret)
  .skip))
  (.seq (.reg [⟨(some 78), none, .load true 8 (t 2)⟩, ⟨(some 79), none, .load true 3 (t 3)⟩, ⟨(some 80), none, .pcall (k (.fn 26 [] [])) [(t 78), (t 79)]⟩, ⟨(some 77), none, .mv (t 80)⟩, ⟨(some 81), none, .ext 0 (t 77)⟩, ⟨(some 82), none, .ext 1 (t 77)⟩, ⟨(some 9), none, .alloc [(.int .i64 0), (.int .i64 0), (.str []), .nils]⟩, ⟨none, none, .store 4 (t 9) (t 81)⟩, ⟨(some 10), none, .mv (t 82)⟩])
  (.seq (.seq (.reg [⟨(some 83), none, .mv (t 6)⟩, ⟨(some 84), none, .mv (t 10)⟩, ⟨(some 85), none, .bin .neq (t 83) (t 84)⟩, ⟨(some 86), none, .mv (t 85)⟩, ⟨(some 87), (some (86, false)), .load true 4 (t 5)⟩, ⟨(some 88), (some (86, false)), .load true 4 (t 9)⟩, ⟨(some 89), (some (86, false)), .pcall (k (.fn 21 [] [])) [(t 87), (t 88)]⟩, ⟨(some 90), (some (86, false)), .un .not (t 89)⟩, ⟨(some 91), none, .pick (t 86) (k (.bool true)) (t 90)⟩])
  (.cond (t 91)
  (.seq (.reg [⟨(some 4), none, .mv (k (.bool false))⟩])
  .ret)
  .skip))
  (.seq (.seq (.reg [⟨(some 92), none, .mv (t 10)⟩, ⟨(some 93), none, .bin .eql (t 92) (k (.int .i64 0))⟩, ⟨(some 94), none, .mv (t 93)⟩, ⟨(some 95), (some (94, true)), .faddr 0 (t 9)⟩, ⟨(some 96), (some (94, true)), .load false 1 (t 95)⟩, ⟨(some 97), (some (94, true)), .bin .neq (t 96) (k (.int .i64 1))⟩, ⟨(some 98), none, .pick (t 94) (t 97) (k (.bool false))⟩])
  (.cond (t 98)
  (.seq (.reg [⟨(some 99), none, .mv (t 8)⟩, ⟨(some 100), none, .bin .eql (t 99) (k (.int .i64 6))⟩, ⟨(some 101), none, .mv (t 100)⟩, ⟨(some 102), (some (101, true)), .mv (t 7)⟩, ⟨(some 103), (some (101, true)), .un .not (t 102)⟩, ⟨(some 104), none, .pick (t 101) (t 103) (k (.bool false))⟩, ⟨(some 4), none, .mv (t 104)⟩])
  .ret)
  .skip))
  (.seq (.reg [⟨(some 105), none, .mv (t 8)⟩, ⟨(some 106), none, .mv (t 10)⟩, ⟨(some 107), none, .bin .eql (t 105) (t 106)⟩, ⟨(some 108), none, .mv (t 107)⟩, ⟨(some 109), (some (108, true)), .mv (t 7)⟩, ⟨(some 110), (some (108, true)), .mv (t 10)⟩, ⟨(some 111), (some (108, true)), .bin .eql (t 110) (k (.int .i64 0))⟩, ⟨(some 112), (some (108, true)), .mv (t 111)⟩, ⟨(some 113), (some (112, true)), .faddr 1 (t 9)⟩, ⟨(some 114), (some (112, true)), .load false 1 (t 113)⟩, ⟨(some 115), (some (112, true)), .bin .eql (t 114) (k (.int .i64 1))⟩, ⟨(some 116), (some (108, true)), .pick (t 112) (t 115) (k (.bool false))⟩, ⟨(some 117), (some (108, true)), .eq1 .bool false (t 109) (t 116)⟩, ⟨(some 118), none, .pick (t 108) (t 117) (k (.bool false))⟩, ⟨(some 4), none, .mv (t 118)⟩])
  .ret)))))))))))
theorem fn6 : Fn Go.Proofs.Try.prog 6 119 [.inl 4] c6 :=
  ⟨⟨_, _, Go.Proofs.Try.func6, rfl, by kernel_rfl, Go.Proofs.Try.ntmps6, by kernel_rfl, ⟨fun f => imp.contains f, false⟩, by kernel_rfl⟩⟩

def c10 : C :=
  (.seq (.reg [⟨(some 0), none, .mv (k (.bool false))⟩])
  (.seq (.reg [⟨(some 4), none, .build [(.str []), (.int .i64 0), (.int .i64 0), (.str []), .nils, (.str []), (.str []), .nils] [(0, 1, (k (.str [110, 111, 119])))]⟩, ⟨(some 5), none, .pcall (k (.fn 30 [] [])) [(k .nils), (t 4)]⟩, ⟨(some 3), none, .mv (t 5)⟩, ⟨(some 6), none, .ext 0 (t 3)⟩, ⟨(some 7), none, .ext 1 (t 3)⟩, ⟨(some 1), none, .mv (t 6)⟩, ⟨(some 2), none, .mv (t 7)⟩])
  (.seq (.reg [⟨(some 8), none, .mv (t 2)⟩, ⟨(some 9), none, .bin .eql (t 8) (k (.int .i64 0))⟩, ⟨(some 10), none, .mv (t 9)⟩, ⟨(some 11), (some (10, true)), .mv (t 1)⟩, ⟨(some 12), (some (10, true)), .bin .eql (t 11) (k (.int .i64 4))⟩, ⟨(some 13), none, .pick (t 10) (t 12) (k (.bool false))⟩, ⟨(some 14), none, .mv (t 13)⟩, ⟨(some 15), (some (14, true)), .pcall (k (.fn 8 [] [])) []⟩, ⟨(some 16), (some (14, true)), .len (t 15)⟩, ⟨(some 17), (some (14, true)), .bin .eql (t 16) (k (.int .i64 6))⟩, ⟨(some 18), none, .pick (t 14) (t 17) (k (.bool false))⟩, ⟨(some 0), none, .mv (t 18)⟩])
  .ret)))
theorem fn10 : Fn Go.Proofs.Try.prog 10 19 [.inl 0] c10 :=
  ⟨⟨_, _, Go.Proofs.Try.func10, rfl, by kernel_rfl, Go.Proofs.Try.ntmps10, by kernel_rfl, ⟨fun f => imp.contains f, false⟩, by kernel_rfl⟩⟩

def c14 : C :=
  (.seq (.reg [⟨(some 2), none, .mv (k .nils)⟩])
  (.seq (.reg [⟨(some 3), none, .mv (k .nils)⟩])
  (.seq (.seq (.reg [⟨(some 4), none, .mv (k (.int .i64 0))⟩])
  (.block 0
  (.loop
  (.seq (.seq (.reg [⟨(some 6), none, .mv (t 4)⟩, ⟨(some 7), none, .mv (t 0)⟩, ⟨(some 8), none, .len (t 7)⟩, ⟨(some 9), none, .bin .lss (t 6) (t 8)⟩])
  (.cond (t 9)
  .skip
  (.exit 0)))
  (.seq (.block 1
  (.seq (.reg [⟨(some 12), none, .mv (t 0)⟩, ⟨(some 13), none, .mv (t 4)⟩, ⟨(some 14), none, .iaddr 4 (t 12) (t 13)⟩, ⟨(some 15), none, .load true 4 (t 14)⟩, ⟨(some 5), none, .alloc [(.str []), (.str []), (.int .i64 0), (.bool false)]⟩, ⟨none, none, .store 4 (t 5) (t 15)⟩])
  (.seq (.reg [⟨(some 16), none, .faddr 2 (t 5)⟩, ⟨(some 17), none, .load false 1 (t 16)⟩, ⟨(some 18), none, .conv .u64 (t 17)⟩, ⟨(some 19), none, .bin .rem (t 18) (k (.int .u64 4))⟩, ⟨(some 20), none, .conv .i64 (t 19)⟩, ⟨(some 21), none, .bin .add (k (.int .i64 1)) (t 20)⟩, ⟨(some 22), none, .faddr 2 (t 5)⟩, ⟨none, none, .store 1 (t 22) (t 21)⟩])
  (.reg [⟨(some 23), none, .mv (t 3)⟩, ⟨(some 24), none, .load true 4 (t 5)⟩, ⟨(some 25), none, .bsl 4 [(t 24)]⟩, ⟨(some 26), none, .app false 4 48 (t 23) (t 25)⟩, ⟨(some 3), none, .mv (t 26)⟩]))))
  (.reg [⟨(some 10), none, .mv (t 4)⟩, ⟨(some 11), none, .bin .add (t 10) (k (.int .i64 1))⟩, ⟨(some 4), none, .mv (t 11)⟩]))))))
  (.seq (.reg [⟨(some 27), none, .mv (t 3)⟩, ⟨(some 2), none, .mv (t 27)⟩])
  .ret))))
theorem fn14 : Fn Go.Proofs.Try.prog 14 28 [.inl 2] c14 :=
  ⟨⟨_, _, Go.Proofs.Try.func14, rfl, by kernel_rfl, Go.Proofs.Try.ntmps14, by kernel_rfl, ⟨fun f => imp.contains f, false⟩, by kernel_rfl⟩⟩

def c18 : C :=
  (.seq (.reg [⟨(some 1), none, .box (t 0)⟩, ⟨(some 2), none, .mv (k (.bool false))⟩])
  (.seq (.seq (.reg [⟨(some 4), none, .faddr 0 (t 1)⟩, ⟨(some 5), none, .load false 1 (t 4)⟩, ⟨(some 6), none, .bin .neq (t 5) (k (.int .i64 5))⟩])
  (.cond (t 6)
  (.seq (.reg [⟨(some 7), none, .load true 4 (t 1)⟩, ⟨(some 8), none, .pcall (k (.fn 37 [] [])) [(t 7)]⟩, ⟨(some 2), none, .mv (t 8)⟩])
  .ret)
  .skip))
  (.seq (.seq (.reg [⟨(some 9), none, .faddr 1 (t 1)⟩, ⟨(some 10), none, .load false 1 (t 9)⟩, ⟨(some 11), none, .bin .neq (t 10) (k (.int .i64 0))⟩, ⟨(some 12), none, .mv (t 11)⟩, ⟨(some 13), (some (12, false)), .faddr 2 (t 1)⟩, ⟨(some 14), (some (12, false)), .load false 1 (t 13)⟩, ⟨(some 15), (some (12, false)), .bin .neq (t 14) (k (.str []))⟩, ⟨(some 16), none, .pick (t 12) (k (.bool true)) (t 15)⟩, ⟨(some 17), none, .mv (t 16)⟩, ⟨(some 18), (some (17, false)), .faddr 3 (t 1)⟩, ⟨(some 19), (some (17, false)), .load false 1 (t 18)⟩, ⟨(some 20), (some (17, false)), .len (t 19)⟩, ⟨(some 21), (some (17, false)), .bin .gtr (t 20) (k (.int .i64 16))⟩, ⟨(some 22), none, .pick (t 17) (k (.bool true)) (t 21)⟩])
  (.cond (t 22)
  (.seq (.reg [⟨(some 2), none, .mv (k (.bool false))⟩])
  .ret)
  .skip))
  (.seq (.seq (.reg [⟨(some 3), none, .mv (k (.int .i64 0))⟩])
  (.block 0
  (.loop
  (.seq (.seq (.reg [⟨(some 23), none, .mv (t 3)⟩, ⟨(some 24), none, .faddr 3 (t 1)⟩, ⟨(some 25), none, .load false 1 (t 24)⟩, ⟨(some 26), none, .len (t 25)⟩, ⟨(some 27), none, .bin .lss (t 23) (t 26)⟩])
  (.cond (t 27)
  .skip
  (.exit 0)))
  (.seq (.block 1
  (.seq (.draw 0 [(⟨(some 30), none, .faddr 3 (t 1)⟩, []), (⟨(some 31), none, .load false 1 (t 30)⟩, []), (⟨(some 32), none, .mv (t 3)⟩, []), (⟨(some 33), none, .iaddr 4 (t 31) (t 32)⟩, []), (⟨(some 34), none, .load true 4 (t 33)⟩, []), (⟨(some 35), none, .pcall (k (.fn 37 [] [])) [(t 34)]⟩, []), (⟨(some 36), none, .un .not (t 35)⟩, []), (⟨(some 37), none, .mv (t 36)⟩, []), (⟨(some 38), (some (37, false)), .faddr 3 (t 1)⟩, []), (⟨(some 39), (some (37, false)), .load false 1 (t 38)⟩, []), (⟨(some 40), (some (37, false)), .mv (t 3)⟩, []), (⟨(some 41), (some (37, false)), .iaddr 4 (t 39) (t 40)⟩, []), (⟨(some 42), (some (37, false)), .faddr 0 (t 41)⟩, []), (⟨(some 43), (some (37, false)), .load false 1 (t 42)⟩, []), (⟨(some 44), (some (37, false)), .bin .eql (t 43) (k (.int .i64 0))⟩, []), (⟨(some 45), none, .pick (t 37) (k (.bool true)) (t 44)⟩, []), (⟨(some 46), none, .mv (t 45)⟩, []), (⟨(some 47), (some (46, false)), .faddr 3 (t 1)⟩, []), (⟨(some 48), (some (46, false)), .load false 1 (t 47)⟩, []), (⟨(some 49), (some (46, false)), .mv (t 3)⟩, []), (⟨(some 50), (some (46, false)), .iaddr 4 (t 48) (t 49)⟩, []), (⟨(some 51), (some (46, false)), .faddr 0 (t 50)⟩, []), (⟨(some 52), (some (46, false)), .load false 1 (t 51)⟩, []), (⟨(some 53), (some (46, false)), .faddr 3 (t 1)⟩, []), (⟨(some 54), (some (46, false)), .load false 1 (t 53)⟩, []), (⟨(some 55), (some (46, false)), .iaddr 4 (t 54) (k (.int .i64 0))⟩, []), (⟨(some 56), (some (46, false)), .faddr 0 (t 55)⟩, []), (⟨(some 57), (some (46, false)), .load false 1 (t 56)⟩, []), (⟨(some 58), (some (46, false)), .bin .neq (t 52) (t 57)⟩, []), (⟨(some 59), none, .pick (t 46) (k (.bool true)) (t 58)⟩, []), (⟨(some 60), none, .mv (t 59)⟩, []), (⟨(some 61), (some (60, false)), .mv (t 3)⟩, []), (⟨(some 62), (some (60, false)), .bin .gtr (t 61) (k (.int .i64 0))⟩, []), (⟨(some 63), (some (60, false)), .mv (t 62)⟩, []), (⟨(some 64), (some (63, true)), .faddr 3 (t 1)⟩, []), (⟨(some 65), (some (63, true)), .load false 1 (t 64)⟩, []), (⟨(some 66), (some (63, true)), .mv (t 3)⟩, []), (⟨(some 67), (some (63, true)), .bin .sub (t 66) (k (.int .i64 1))⟩, []), (⟨(some 68), (some (63, true)), .iaddr 4 (t 65) (t 67)⟩, []), (⟨(some 69), (some (63, true)), .load true 4 (t 68)⟩, []), (⟨(some 70), (some (63, true)), .faddr 3 (t 1)⟩, []), (⟨(some 71), (some (63, true)), .load false 1 (t 70)⟩, []), (⟨(some 72), (some (63, true)), .mv (t 3)⟩, []), (⟨(some 73), (some (63, true)), .iaddr 4 (t 71) (t 72)⟩, []), (⟨(some 74), (some (63, true)), .load true 4 (t 73)⟩, []), (⟨(some 75), (some (63, true)), .pcall (k (.fn 38 [] [])) [(t 69), (t 74)]⟩, []), (⟨(some 76), (some (63, true)), .bin .geq (t 75) (k (.int .i64 0))⟩, []), (⟨(some 77), (some (60, false)), .pick (t 63) (t 76) (k (.bool false))⟩, []), (⟨(some 78), none, .pick (t 60) (k (.bool true)) (t 77)⟩, [])])
  (.cond (t 78)
  (.seq (.reg [⟨(some 2), none, .mv (k (.bool false))⟩])
  .ret)
  .skip)))
  (.reg [⟨(some 28), none, .mv (t 3)⟩, ⟨(some 29), none, .bin .add (t 28) (k (.int .i64 1))⟩, ⟨(some 3), none, .mv (t 29)⟩]))))))
  (.seq (.reg [⟨(some 2), none, .mv (k (.bool true))⟩])
  .ret)))))
theorem fn18 : Fn Go.Proofs.Try.prog 18 79 [.inl 2] c18 :=
  ⟨⟨_, _, Go.Proofs.Try.func18, rfl, by kernel_rfl, Go.Proofs.Try.ntmps18, by kernel_rfl, ⟨fun f => imp.contains f, false⟩, by kernel_rfl⟩⟩

def c19 : C :=
  (.seq (.reg [⟨(some 4), none, .mv (k (.bool false))⟩])
  (.seq (.seq (.reg [⟨(some 5), none, .mv (k (.int .i64 0))⟩])
  (.block 0
  (.loop
  (.seq (.seq (.reg [⟨(some 7), none, .mv (t 5)⟩, ⟨(some 8), none, .mv (t 0)⟩, ⟨(some 9), none, .len (t 8)⟩, ⟨(some 10), none, .bin .lss (t 7) (t 9)⟩, ⟨(some 11), none, .mv (t 10)⟩, ⟨(some 12), (some (11, true)), .mv (t 5)⟩, ⟨(some 13), (some (11, true)), .bin .lss (t 12) (k (.int .i64 100))⟩, ⟨(some 14), none, .pick (t 11) (t 13) (k (.bool false))⟩])
  (.cond (t 14)
  .skip
  (.exit 0)))
  (.seq (.block 1
  (.seq (.seq (.reg [⟨(some 17), none, .mv (t 0)⟩, ⟨(some 18), none, .mv (t 5)⟩, ⟨(some 19), none, .iaddr 4 (t 17) (t 18)⟩, ⟨(some 20), none, .faddr 2 (t 19)⟩, ⟨(some 21), none, .load false 1 (t 20)⟩, ⟨(some 22), none, .lens (t 21)⟩, ⟨(some 23), none, .bin .gtr (t 22) (k (.int .i64 200))⟩, ⟨(some 24), none, .mv (t 23)⟩, ⟨(some 25), (some (24, false)), .mv (t 0)⟩, ⟨(some 26), (some (24, false)), .mv (t 5)⟩, ⟨(some 27), (some (24, false)), .iaddr 4 (t 25) (t 26)⟩, ⟨(some 28), (some (24, false)), .faddr 3 (t 27)⟩, ⟨(some 29), (some (24, false)), .load false 1 (t 28)⟩, ⟨(some 30), (some (24, false)), .len (t 29)⟩, ⟨(some 31), (some (24, false)), .bin .gtr (t 30) (k (.int .i64 30))⟩, ⟨(some 32), none, .pick (t 24) (k (.bool true)) (t 31)⟩])
  (.cond (t 32)
  (.seq (.reg [⟨(some 4), none, .mv (k (.bool false))⟩])
  .ret)
  .skip))
  (.seq (.reg [⟨(some 6), none, .mv (k (.int .i64 0))⟩])
  (.block 2
  (.loop
  (.seq (.seq (.reg [⟨(some 33), none, .mv (t 6)⟩, ⟨(some 34), none, .mv (t 0)⟩, ⟨(some 35), none, .mv (t 5)⟩, ⟨(some 36), none, .iaddr 4 (t 34) (t 35)⟩, ⟨(some 37), none, .faddr 3 (t 36)⟩, ⟨(some 38), none, .load false 1 (t 37)⟩, ⟨(some 39), none, .len (t 38)⟩, ⟨(some 40), none, .bin .lss (t 33) (t 39)⟩])
  (.cond (t 40)
  .skip
  (.exit 2)))
  (.seq (.block 3
  (.seq (.reg [⟨(some 43), none, .mv (t 0)⟩, ⟨(some 44), none, .mv (t 5)⟩, ⟨(some 45), none, .iaddr 4 (t 43) (t 44)⟩, ⟨(some 46), none, .faddr 3 (t 45)⟩, ⟨(some 47), none, .load false 1 (t 46)⟩, ⟨(some 48), none, .mv (t 6)⟩, ⟨(some 49), none, .iaddr 4 (t 47) (t 48)⟩, ⟨(some 50), none, .faddr 2 (t 49)⟩, ⟨(some 51), none, .load false 1 (t 50)⟩, ⟨(some 52), none, .lens (t 51)⟩, ⟨(some 53), none, .bin .gtr (t 52) (k (.int .i64 200))⟩, ⟨(some 54), none, .mv (t 53)⟩, ⟨(some 55), (some (54, false)), .mv (t 0)⟩, ⟨(some 56), (some (54, false)), .mv (t 5)⟩, ⟨(some 57), (some (54, false)), .iaddr 4 (t 55) (t 56)⟩, ⟨(some 58), (some (54, false)), .faddr 3 (t 57)⟩, ⟨(some 59), (some (54, false)), .load false 1 (t 58)⟩, ⟨(some 60), (some (54, false)), .mv (t 6)⟩, ⟨(some 61), (some (54, false)), .iaddr 4 (t 59) (t 60)⟩, ⟨(some 62), (some (54, false)), .faddr 3 (t 61)⟩, ⟨(some 63), (some (54, false)), .load false 1 (t 62)⟩, ⟨(some 64), (some (54, false)), .len (t 63)⟩, ⟨(some 65), (some (54, false)), .bin .gtr (t 64) (k (.int .i64 0))⟩, ⟨(some 66), none, .pick (t 54) (k (.bool true)) (t 65)⟩])
  (.cond (t 66)
  (.seq (.reg [⟨(some 4), none, .mv (k (.bool false))⟩])
  .ret)
  .skip)))
  (.reg [⟨(some 41), none, .mv (t 6)⟩, ⟨(some 42), none, .bin .add (t 41) (k (.int .i64 1))⟩, ⟨(some 6), none, .mv (t 42)⟩]))))))))
  (.reg [⟨(some 15), none, .mv (t 5)⟩, ⟨(some 16), none, .bin .add (t 15) (k (.int .i64 1))⟩, ⟨(some 5), none, .mv (t 16)⟩]))))))
  (.seq (.reg [⟨(some 67), none, .mv (t 0)⟩, ⟨(some 68), none, .len (t 67)⟩, ⟨(some 69), none, .mv (t 1)⟩, ⟨(some 70), none, .bin .leq (t 68) (t 69)⟩, ⟨(some 4), none, .mv (t 70)⟩])
  .ret)))
theorem fn19 : Fn Go.Proofs.Try.prog 19 71 [.inl 4] c19 :=
  ⟨⟨_, _, Go.Proofs.Try.func19, rfl, by kernel_rfl, Go.Proofs.Try.ntmps19, by kernel_rfl, ⟨fun f => imp.contains f, false⟩, by kernel_rfl⟩⟩

def c22 : C :=
  (.seq (.reg [⟨(some 2), none, .box (t 0)⟩, ⟨(some 3), none, .box (t 1)⟩, ⟨(some 4), none, .mv (k (.bool false))⟩, ⟨(some 5), none, .mv (k (.int .i64 0))⟩])
  (.seq (.seq (.reg [⟨(some 7), none, .load true 8 (t 2)⟩, ⟨(some 8), none, .load true 3 (t 3)⟩, ⟨(some 9), none, .pcall (k (.fn 35 [] [])) [(t 7), (t 8)]⟩, ⟨(some 6), none, .mv (t 9)⟩])
  (.seq (.reg [⟨(some 10), none, .mv (t 6)⟩, ⟨(some 11), none, .bin .neq (t 10) (k (.int .i64 0))⟩])
  (.cond (t 11)
  (.seq (.reg [⟨(some 12), none, .mv (t 6)⟩, ⟨(some 4), none, .mv (k (.bool false))⟩, ⟨(some 5), none, .mv (t 12)⟩])
  .ret)
  .skip)))
  (.seq (.reg [⟨(some 13), none, .load true 3 (t 3)⟩, ⟨(some 14), none, .load true 8 (t 2)⟩, ⟨(some 15), none, .pcall (k (.fn 39 [] [])) [(t 13), (t 14)]⟩, ⟨(some 16), none, .ext 0 (t 15)⟩, ⟨(some 17), none, .ext 1 (t 15)⟩, ⟨(some 4), none, .mv (t 16)⟩, ⟨(some 5), none, .mv (t 17)⟩])
  .ret)))
theorem fn22 : Fn Go.Proofs.Try.prog 22 18 [.inl 4, .inl 5] c22 :=
  ⟨⟨_, _, Go.Proofs.Try.func22, rfl, by kernel_rfl, Go.Proofs.Try.ntmps22, by kernel_rfl, ⟨fun f => imp.contains f, false⟩, by kernel_rfl⟩⟩

def c41 : C :=
  (.seq (.reg [⟨(some 2), none, .box (t 0)⟩, ⟨(some 3), none, .box (t 1)⟩, ⟨(some 4), none, .alloc [(.int .i64 0), (.int .i64 0), (.str []), .nils]⟩, ⟨(some 5), none, .mv (k (.int .i64 0))⟩])
  (.seq (.reg [⟨(some 6), none, .load true 8 (t 2)⟩, ⟨(some 7), none, .load true 3 (t 3)⟩, ⟨(some 8), none, .pcall (k (.fn 26 [] [])) [(t 6), (t 7)]⟩, ⟨(some 9), none, .ext 0 (t 8)⟩, ⟨(some 10), none, .ext 1 (t 8)⟩, ⟨none, none, .store 4 (t 4) (t 9)⟩, ⟨(some 5), none, .mv (t 10)⟩])
  .ret))
theorem fn41 : Fn Go.Proofs.Try.prog 41 11 [.inr (4, true, 4), .inl 5] c41 :=
  ⟨⟨_, _, Go.Proofs.Try.func41, rfl, by kernel_rfl, Go.Proofs.Try.ntmps41, by kernel_rfl, ⟨fun f => imp.contains f, false⟩, by kernel_rfl⟩⟩

def c55 : C :=
  (.seq (.reg [⟨(some 4), none, .box (t 1)⟩, ⟨(some 5), none, .box (t 2)⟩, ⟨(some 6), none, .alloc [(.int .i64 0), (.int .i64 0), (.str []), .nils]⟩, ⟨(some 7), none, .mv (k (.int .i64 0))⟩])
  (.seq (.seq (.reg [⟨(some 8), none, .mv (t 0)⟩])
  (.block 0
  (.seq (.reg [⟨(some 10), none, .bin .eql (t 8) (k (.str [43]))⟩, ⟨(some 9), none, .mv (t 10)⟩])
  (.cond (t 9)
  (.seq (.reg [⟨(some 11), none, .load true 4 (t 4)⟩, ⟨(some 12), none, .load true 4 (t 5)⟩, ⟨(some 13), none, .pcall (k (.fn 77 [] [])) [(t 11), (t 12)]⟩, ⟨(some 14), none, .ext 0 (t 13)⟩, ⟨(some 15), none, .ext 1 (t 13)⟩, ⟨none, none, .store 4 (t 6) (t 14)⟩, ⟨(some 7), none, .mv (t 15)⟩])
  .ret)
  (.seq (.reg [⟨(some 17), none, .bin .eql (t 8) (k (.str [45]))⟩, ⟨(some 16), none, .mv (t 17)⟩])
  (.cond (t 16)
  (.seq (.reg [⟨(some 18), none, .load true 4 (t 4)⟩, ⟨(some 19), none, .load true 4 (t 5)⟩, ⟨(some 20), none, .pcall (k (.fn 75 [] [])) [(t 18), (t 19)]⟩, ⟨(some 21), none, .ext 0 (t 20)⟩, ⟨(some 22), none, .ext 1 (t 20)⟩, ⟨none, none, .store 4 (t 6) (t 21)⟩, ⟨(some 7), none, .mv (t 22)⟩])
  .ret)
  (.seq (.reg [⟨(some 24), none, .bin .eql (t 8) (k (.str [42]))⟩, ⟨(some 23), none, .mv (t 24)⟩])
  (.cond (t 23)
  (.seq (.reg [⟨(some 25), none, .load true 4 (t 4)⟩, ⟨(some 26), none, .load true 4 (t 5)⟩, ⟨(some 27), none, .pcall (k (.fn 78 [] [])) [(t 25), (t 26)]⟩, ⟨(some 28), none, .ext 0 (t 27)⟩, ⟨(some 29), none, .ext 1 (t 27)⟩, ⟨none, none, .store 4 (t 6) (t 28)⟩, ⟨(some 7), none, .mv (t 29)⟩])
  .ret)
  (.seq (.reg [⟨(some 31), none, .bin .eql (t 8) (k (.str [105, 110]))⟩, ⟨(some 30), none, .mv (t 31)⟩])
  (.cond (t 30)
  (.seq (.reg [⟨(some 32), none, .load true 4 (t 4)⟩, ⟨(some 33), none, .load true 4 (t 5)⟩, ⟨(some 34), none, .pcall (k (.fn 80 [] [])) [(t 32), (t 33)]⟩, ⟨(some 35), none, .ext 0 (t 34)⟩, ⟨(some 36), none, .ext 1 (t 34)⟩, ⟨(some 37), none, .pcall (k (.fn 79 [] [])) [(t 35), (t 36)]⟩, ⟨(some 38), none, .ext 0 (t 37)⟩, ⟨(some 39), none, .ext 1 (t 37)⟩, ⟨none, none, .store 4 (t 6) (t 38)⟩, ⟨(some 7), none, .mv (t 39)⟩])
  .ret)
  .skip))))))))))
  (.seq (.reg [⟨(some 40), none, .mv (t 0)⟩, ⟨(some 41), none, .load true 4 (t 4)⟩, ⟨(some 42), none, .load true 4 (t 5)⟩, ⟨(some 43), none, .pcall (k (.fn 81 [] [])) [(t 40), (t 41), (t 42)]⟩, ⟨(some 44), none, .ext 0 (t 43)⟩, ⟨(some 45), none, .ext 1 (t 43)⟩, ⟨(some 46), none, .pcall (k (.fn 79 [] [])) [(t 44), (t 45)]⟩, ⟨(some 47), none, .ext 0 (t 46)⟩, ⟨(some 48), none, .ext 1 (t 46)⟩, ⟨none, none, .store 4 (t 6) (t 47)⟩, ⟨(some 7), none, .mv (t 48)⟩])
  .ret)))
theorem fn55 : Fn Go.Proofs.Try.prog 55 49 [.inr (6, true, 4), .inl 7] c55 :=
  ⟨⟨_, _, Go.Proofs.Try.func55, rfl, by kernel_rfl, Go.Proofs.Try.ntmps55, by kernel_rfl, ⟨fun f => imp.contains f, false⟩, by kernel_rfl⟩⟩

def c58 : C :=
  (.seq (.reg [⟨(some 1), none, .box (t 0)⟩, ⟨(some 2), none, .mv (k (.bool false))⟩])
  (.seq (.seq (.reg [⟨(some 3), none, .faddr 3 (t 1)⟩, ⟨(some 4), none, .load false 1 (t 3)⟩, ⟨(some 5), none, .len (t 4)⟩, ⟨(some 6), none, .bin .gtr (t 5) (k (.int .i64 0))⟩, ⟨(some 7), none, .mv (t 6)⟩, ⟨(some 8), (some (7, false)), .faddr 0 (t 1)⟩, ⟨(some 9), (some (7, false)), .load false 1 (t 8)⟩, ⟨(some 10), (some (7, false)), .bin .neq (t 9) (k (.int .i64 3))⟩, ⟨(some 11), (some (7, false)), .mv (t 10)⟩, ⟨(some 12), (some (11, true)), .faddr 2 (t 1)⟩, ⟨(some 13), (some (11, true)), .load false 1 (t 12)⟩, ⟨(some 14), (some (11, true)), .bin .neq (t 13) (k (.str []))⟩, ⟨(some 15), (some (7, false)), .pick (t 11) (t 14) (k (.bool false))⟩, ⟨(some 16), none, .pick (t 7) (k (.bool true)) (t 15)⟩])
  (.cond (t 16)
  (.seq (.reg [⟨(some 2), none, .mv (k (.bool false))⟩])
  .ret)
  .skip))
  (.seq (.seq (.reg [⟨(some 17), none, .faddr 0 (t 1)⟩, ⟨(some 18), none, .load false 1 (t 17)⟩])
  (.block 0
  (.seq (.reg [⟨(some 20), none, .bin .eql (t 18) (k (.int .i64 0))⟩, ⟨(some 19), none, .mv (t 20)⟩])
  (.cond (t 19)
  (.seq (.reg [⟨(some 21), none, .faddr 1 (t 1)⟩, ⟨(some 22), none, .load false 1 (t 21)⟩, ⟨(some 23), none, .bin .eql (t 22) (k (.int .i64 0))⟩, ⟨(some 2), none, .mv (t 23)⟩])
  .ret)
  (.seq (.reg [⟨(some 25), none, .bin .eql (t 18) (k (.int .i64 1))⟩, ⟨(some 24), none, .mv (t 25)⟩])
  (.cond (t 24)
  (.seq (.reg [⟨(some 26), none, .faddr 1 (t 1)⟩, ⟨(some 27), none, .load false 1 (t 26)⟩, ⟨(some 28), none, .bin .eql (t 27) (k (.int .i64 0))⟩, ⟨(some 29), none, .mv (t 28)⟩, ⟨(some 30), (some (29, false)), .faddr 1 (t 1)⟩, ⟨(some 31), (some (29, false)), .load false 1 (t 30)⟩, ⟨(some 32), (some (29, false)), .bin .eql (t 31) (k (.int .i64 1))⟩, ⟨(some 33), none, .pick (t 29) (k (.bool true)) (t 32)⟩, ⟨(some 2), none, .mv (t 33)⟩])
  .ret)
  (.seq (.reg [⟨(some 35), none, .bin .eql (t 18) (k (.int .i64 2))⟩, ⟨(some 34), none, .mv (t 35)⟩])
  (.cond (t 34)
  (.seq (.reg [⟨(some 2), none, .mv (k (.bool true))⟩])
  .ret)
  (.seq (.reg [⟨(some 37), none, .bin .eql (t 18) (k (.int .i64 3))⟩, ⟨(some 36), none, .mv (t 37)⟩])
  (.cond (t 36)
  (.seq (.reg [⟨(some 38), none, .faddr 1 (t 1)⟩, ⟨(some 39), none, .load false 1 (t 38)⟩, ⟨(some 40), none, .bin .eql (t 39) (k (.int .i64 0))⟩, ⟨(some 41), none, .mv (t 40)⟩, ⟨(some 42), (some (41, true)), .faddr 2 (t 1)⟩, ⟨(some 43), (some (41, true)), .load false 1 (t 42)⟩, ⟨(some 44), (some (41, true)), .lens (t 43)⟩, ⟨(some 45), (some (41, true)), .bin .leq (t 44) (k (.int .i64 64))⟩, ⟨(some 46), none, .pick (t 41) (t 45) (k (.bool false))⟩, ⟨(some 2), none, .mv (t 46)⟩])
  .ret)
  (.seq (.reg [⟨(some 48), none, .bin .eql (t 18) (k (.int .i64 4))⟩, ⟨(some 47), none, .mv (t 48)⟩])
  (.cond (t 47)
  (.seq (.reg [⟨(some 49), none, .faddr 1 (t 1)⟩, ⟨(some 50), none, .load false 1 (t 49)⟩, ⟨(some 51), none, .bin .geq (t 50) (k (.int .i64 0))⟩, ⟨(some 52), none, .mv (t 51)⟩, ⟨(some 53), (some (52, true)), .faddr 1 (t 1)⟩, ⟨(some 54), (some (52, true)), .load false 1 (t 53)⟩, ⟨(some 55), (some (52, true)), .bin .leq (t 54) (k (.int .i64 1099511627776))⟩, ⟨(some 56), none, .pick (t 52) (t 55) (k (.bool false))⟩, ⟨(some 2), none, .mv (t 56)⟩])
  .ret)
  .skip))))))))))))
  (.seq (.reg [⟨(some 2), none, .mv (k (.bool false))⟩])
  .ret))))
theorem fn58 : Fn Go.Proofs.Try.prog 58 57 [.inl 2] c58 :=
  ⟨⟨_, _, Go.Proofs.Try.func58, rfl, by kernel_rfl, Go.Proofs.Try.ntmps58, by kernel_rfl, ⟨fun f => imp.contains f, false⟩, by kernel_rfl⟩⟩

def c62 : C :=
  (.seq (.reg [⟨(some 2), none, .box (t 0)⟩, ⟨(some 3), none, .box (t 1)⟩, ⟨(some 4), none, .alloc [(.int .i64 0), (.int .u64 0)]⟩])
  (.seq (.reg [⟨(some 7), none, .faddr 1 (t 2)⟩, ⟨(some 8), none, .load false 1 (t 7)⟩, ⟨(some 9), none, .faddr 1 (t 3)⟩, ⟨(some 10), none, .load false 1 (t 9)⟩, ⟨(some 11), none, .bin .add (t 8) (t 10)⟩, ⟨(some 5), none, .mv (t 11)⟩])
  (.seq (.reg [⟨(some 12), none, .faddr 0 (t 2)⟩, ⟨(some 13), none, .load false 1 (t 12)⟩, ⟨(some 14), none, .conv .u64 (t 13)⟩, ⟨(some 15), none, .faddr 0 (t 3)⟩, ⟨(some 16), none, .load false 1 (t 15)⟩, ⟨(some 17), none, .conv .u64 (t 16)⟩, ⟨(some 18), none, .bin .add (t 14) (t 17)⟩, ⟨(some 19), none, .conv .i64 (t 18)⟩, ⟨(some 6), none, .mv (t 19)⟩])
  (.seq (.seq (.reg [⟨(some 20), none, .mv (t 5)⟩, ⟨(some 21), none, .faddr 1 (t 2)⟩, ⟨(some 22), none, .load false 1 (t 21)⟩, ⟨(some 23), none, .bin .lss (t 20) (t 22)⟩])
  (.cond (t 23)
  (.reg [⟨(some 24), none, .mv (t 6)⟩, ⟨(some 25), none, .conv .u64 (t 24)⟩, ⟨(some 26), none, .bin .add (t 25) (k (.int .u64 1))⟩, ⟨(some 27), none, .conv .i64 (t 26)⟩, ⟨(some 6), none, .mv (t 27)⟩])
  .skip))
  (.seq (.reg [⟨(some 28), none, .mv (t 6)⟩, ⟨(some 29), none, .mv (t 5)⟩, ⟨(some 30), none, .build [(.int .i64 0), (.int .u64 0)] [(0, 1, (t 28)), (1, 1, (t 29))]⟩, ⟨none, none, .store 2 (t 4) (t 30)⟩])
  .ret)))))
theorem fn62 : Fn Go.Proofs.Try.prog 62 31 [.inr (4, true, 2)] c62 :=
  ⟨⟨_, _, Go.Proofs.Try.func62, rfl, by kernel_rfl, Go.Proofs.Try.ntmps62, by kernel_rfl, ⟨fun f => imp.contains f, false⟩, by kernel_rfl⟩⟩

def c73 : C :=
  (.seq (.reg [⟨(some 4), none, .mv (k (.bool false))⟩])
  (.seq (.reg [⟨(some 5), none, .mv (t 0)⟩, ⟨(some 6), none, .mv (t 1)⟩, ⟨(some 7), none, .pcall (k (.fn 88 [] [])) [(t 5), (t 6)]⟩, ⟨(some 8), none, .bin .geq (t 7) (k (.int .i64 0))⟩, ⟨(some 4), none, .mv (t 8)⟩])
  .ret))
theorem fn73 : Fn Go.Proofs.Try.prog 73 9 [.inl 4] c73 :=
  ⟨⟨_, _, Go.Proofs.Try.func73, rfl, by kernel_rfl, Go.Proofs.Try.ntmps73, by kernel_rfl, ⟨fun f => imp.contains f, false⟩, by kernel_rfl⟩⟩

def c78 : C :=
  (.seq (.reg [⟨(some 2), none, .box (t 0)⟩, ⟨(some 3), none, .box (t 1)⟩, ⟨(some 4), none, .alloc [(.int .i64 0), (.int .i64 0), (.str []), .nils]⟩, ⟨(some 5), none, .mv (k (.int .i64 0))⟩])
  (.seq (.block 0
  (.seq (.reg [⟨(some 7), none, .load true 4 (t 2)⟩, ⟨(some 8), none, .pcall (k (.fn 40 [] [])) [(t 7)]⟩, ⟨(some 9), none, .un .not (t 8)⟩, ⟨(some 10), none, .mv (t 9)⟩, ⟨(some 11), (some (10, false)), .load true 4 (t 3)⟩, ⟨(some 12), (some (10, false)), .pcall (k (.fn 40 [] [])) [(t 11)]⟩, ⟨(some 13), (some (10, false)), .un .not (t 12)⟩, ⟨(some 14), none, .pick (t 10) (k (.bool true)) (t 13)⟩, ⟨(some 6), none, .mv (t 14)⟩])
  (.cond (t 6)
  (.seq (.reg [⟨(some 15), none, .build [(.int .i64 0), (.int .i64 0), (.str []), .nils] []⟩, ⟨none, none, .store 4 (t 4) (t 15)⟩, ⟨(some 5), none, .mv (k (.int .i64 1))⟩])
  .ret)
  (.seq (.reg [⟨(some 17), none, .faddr 0 (t 2)⟩, ⟨(some 18), none, .load false 1 (t 17)⟩, ⟨(some 19), none, .bin .neq (t 18) (k (.int .i64 2))⟩, ⟨(some 20), none, .mv (t 19)⟩, ⟨(some 21), (some (20, false)), .faddr 0 (t 3)⟩, ⟨(some 22), (some (20, false)), .load false 1 (t 21)⟩, ⟨(some 23), (some (20, false)), .bin .neq (t 22) (k (.int .i64 2))⟩, ⟨(some 24), none, .pick (t 20) (k (.bool true)) (t 23)⟩, ⟨(some 16), none, .mv (t 24)⟩])
  (.cond (t 16)
  (.seq (.reg [⟨(some 25), none, .build [(.int .i64 0), (.int .i64 0), (.str []), .nils] []⟩, ⟨none, none, .store 4 (t 4) (t 25)⟩, ⟨(some 5), none, .mv (k (.int .i64 6))⟩])
  .ret)
  .skip)))))
  (.seq (.reg [⟨(some 26), none, .faddr 1 (t 2)⟩, ⟨(some 27), none, .load false 1 (t 26)⟩, ⟨(some 28), none, .faddr 1 (t 3)⟩, ⟨(some 29), none, .load false 1 (t 28)⟩, ⟨(some 30), none, .pcall (k (.fn 96 [] [])) [(t 27), (t 29)]⟩, ⟨(some 31), none, .ext 0 (t 30)⟩, ⟨(some 32), none, .ext 1 (t 30)⟩, ⟨(some 33), none, .pcall (k (.fn 92 [] [])) [(t 31), (t 32)]⟩, ⟨(some 34), none, .ext 0 (t 33)⟩, ⟨(some 35), none, .ext 1 (t 33)⟩, ⟨none, none, .store 4 (t 4) (t 34)⟩, ⟨(some 5), none, .mv (t 35)⟩])
  .ret)))
theorem fn78 : Fn Go.Proofs.Try.prog 78 36 [.inr (4, true, 4), .inl 5] c78 :=
  ⟨⟨_, _, Go.Proofs.Try.func78, rfl, by kernel_rfl, Go.Proofs.Try.ntmps78, by kernel_rfl, ⟨fun f => imp.contains f, false⟩, by kernel_rfl⟩⟩

def c86 : C :=
  (.seq (.reg [⟨(some 6), none, .mv (k (.int .i64 0))⟩])
  (.seq (.seq (.reg [⟨(some 11), none, .mv (t 0)⟩, ⟨(some 12), none, .len (t 11)⟩, ⟨(some 13), none, .mv (k (.int .i64 0))⟩])
  (.block 0
  (.loop
  (.seq (.reg [⟨(some 14), none, .bin .lss (t 13) (t 12)⟩])
  (.seq (.cond (t 14)
  .skip
  (.exit 0))
  (.seq (.block 1
  (.seq (.reg [⟨(some 15), none, .mv (t 13)⟩, ⟨(some 16), none, .iaddr 4 (t 11) (t 13)⟩, ⟨(some 17), none, .load true 4 (t 16)⟩, ⟨(some 8), none, .alloc [(.int .i64 0), (.int .i64 0), (.str []), .nils]⟩, ⟨(some 7), none, .mv (t 15)⟩, ⟨none, none, .store 4 (t 8) (t 17)⟩])
  (.seq (.seq (.reg [⟨(some 18), none, .mv (t 7)⟩, ⟨(some 19), none, .mv (t 1)⟩, ⟨(some 20), none, .len (t 19)⟩, ⟨(some 21), none, .bin .geq (t 18) (t 20)⟩])
  (.cond (t 21)
  (.seq (.reg [⟨(some 6), none, .mv (k (.int .i64 1))⟩])
  .ret)
  .skip))
  (.seq (.reg [⟨(some 22), none, .mv (t 1)⟩, ⟨(some 23), none, .mv (t 7)⟩, ⟨(some 24), none, .iaddr 4 (t 22) (t 23)⟩, ⟨(some 25), none, .load true 4 (t 24)⟩, ⟨(some 9), none, .alloc [(.int .i64 0), (.int .i64 0), (.str []), .nils]⟩, ⟨none, none, .store 4 (t 9) (t 25)⟩])
  (.seq (.reg [⟨(some 26), none, .mv (t 2)⟩, ⟨(some 27), none, .load true 4 (t 8)⟩, ⟨(some 28), none, .load true 4 (t 9)⟩, ⟨(some 29), none, .pcall (t 26) [(t 27), (t 28)]⟩, ⟨(some 10), none, .mv (t 29)⟩])
  (.seq (.reg [⟨(some 30), none, .mv (t 10)⟩, ⟨(some 31), none, .bin .neq (t 30) (k (.int .i64 0))⟩])
  (.cond (t 31)
  (.seq (.reg [⟨(some 32), none, .mv (t 10)⟩, ⟨(some 6), none, .mv (t 32)⟩])
  .ret)
  .skip)))))))
  (.reg [⟨(some 33), none, .bin .add (t 13) (k (.int .i64 1))⟩, ⟨(some 13), none, .mv (t 33)⟩])))))))
  (.seq (.seq (.reg [⟨(some 34), none, .mv (t 0)⟩, ⟨(some 35), none, .len (t 34)⟩, ⟨(some 36), none, .mv (t 1)⟩, ⟨(some 37), none, .len (t 36)⟩, ⟨(some 38), none, .bin .lss (t 35) (t 37)⟩])
  (.cond (t 38)
  (.seq (.reg [⟨(some 6), none, .mv (k (.int .i64 (-1)))⟩])
  .ret)
  .skip))
  (.seq (.reg [⟨(some 6), none, .mv (k (.int .i64 0))⟩])
  .ret))))
theorem fn86 : Fn Go.Proofs.Try.prog 86 39 [.inl 6] c86 :=
  ⟨⟨_, _, Go.Proofs.Try.func86, rfl, by kernel_rfl, Go.Proofs.Try.ntmps86, by kernel_rfl, ⟨fun f => imp.contains f, false⟩, by kernel_rfl⟩⟩

def c90 : C :=
  (.seq (.reg [⟨(some 3), none, .box (t 0)⟩, ⟨(some 4), none, .mv (k (.bool false))⟩])
  (.seq (.reg [⟨(some 5), none, .faddr 0 (t 3)⟩, ⟨(some 6), none, .load false 1 (t 5)⟩, ⟨(some 7), none, .load false 1 (t 1)⟩, ⟨(some 8), none, .bin .eql (t 6) (t 7)⟩, ⟨(some 9), none, .mv (t 8)⟩, ⟨(some 10), (some (9, true)), .faddr 1 (t 3)⟩, ⟨(some 11), (some (9, true)), .load false 1 (t 10)⟩, ⟨(some 12), (some (9, true)), .load false 1 (t 2)⟩, ⟨(some 13), (some (9, true)), .bin .eql (t 11) (t 12)⟩, ⟨(some 14), none, .pick (t 9) (t 13) (k (.bool false))⟩, ⟨(some 4), none, .mv (t 14)⟩])
  .ret))
theorem fn90 : Fn Go.Proofs.Try.prog 90 15 [.inl 4] c90 :=
  ⟨⟨_, _, Go.Proofs.Try.func90, rfl, by kernel_rfl, Go.Proofs.Try.ntmps90, by kernel_rfl, ⟨fun f => imp.contains f, false⟩, by kernel_rfl⟩⟩

def c95 : C :=
  (.seq (.reg [⟨(some 4), none, .mv (k (.int .i64 0))⟩, ⟨(some 5), none, .mv (k (.bool false))⟩])
  (.seq (.reg [⟨(some 7), none, .mv (t 0)⟩, ⟨(some 8), none, .mv (t 1)⟩, ⟨(some 9), none, .bin .add (t 7) (t 8)⟩, ⟨(some 6), none, .mv (t 9)⟩])
  (.seq (.reg [⟨(some 10), none, .mv (t 6)⟩, ⟨(some 11), none, .mv (t 0)⟩, ⟨(some 12), none, .bin .lss (t 11) (k (.int .i64 0))⟩, ⟨(some 13), none, .mv (t 1)⟩, ⟨(some 14), none, .bin .lss (t 13) (k (.int .i64 0))⟩, ⟨(some 15), none, .eq1 .bool true (t 12) (t 14)⟩, ⟨(some 16), none, .mv (t 15)⟩, ⟨(some 17), (some (16, false)), .mv (t 6)⟩, ⟨(some 18), (some (16, false)), .bin .lss (t 17) (k (.int .i64 0))⟩, ⟨(some 19), (some (16, false)), .mv (t 0)⟩, ⟨(some 20), (some (16, false)), .bin .lss (t 19) (k (.int .i64 0))⟩, ⟨(some 21), (some (16, false)), .eq1 .bool false (t 18) (t 20)⟩, ⟨(some 22), none, .pick (t 16) (k (.bool true)) (t 21)⟩, ⟨(some 4), none, .mv (t 10)⟩, ⟨(some 5), none, .mv (t 22)⟩])
  .ret)))
theorem fn95 : Fn Go.Proofs.Try.prog 95 23 [.inl 4, .inl 5] c95 :=
  ⟨⟨_, _, Go.Proofs.Try.func95, rfl, by kernel_rfl, Go.Proofs.Try.ntmps95, by kernel_rfl, ⟨fun f => imp.contains f, false⟩, by kernel_rfl⟩⟩

def c97 : C :=
  (.seq (.reg [⟨(some 4), none, .mv (k (.bool false))⟩])
  (.seq (.reg [⟨(some 5), none, .mv (t 0)⟩, ⟨(some 6), none, .mv (t 1)⟩, ⟨(some 7), none, .pcall (k (.fn 104 [] [])) [(t 5), (t 6)]⟩, ⟨(some 8), none, .bin .geq (t 7) (k (.int .i64 0))⟩, ⟨(some 4), none, .mv (t 8)⟩])
  .ret))
theorem fn97 : Fn Go.Proofs.Try.prog 97 9 [.inl 4] c97 :=
  ⟨⟨_, _, Go.Proofs.Try.func97, rfl, by kernel_rfl, Go.Proofs.Try.ntmps97, by kernel_rfl, ⟨fun f => imp.contains f, false⟩, by kernel_rfl⟩⟩

end GP
