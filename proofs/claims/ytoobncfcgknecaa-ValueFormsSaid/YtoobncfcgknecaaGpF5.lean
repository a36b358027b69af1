import Derived.Test.YtoobncfcgknecaaGpF1
import Derived.Test.YtoobncfcgknecaaGpY
namespace GP
open Go Go.Proofs
open Rd O
def c5 : C :=
  (.seq (.reg [⟨(some 2), none, .box (t 0)⟩, ⟨(some 3), none, .box (t 1)⟩, ⟨(some 4), none, .mv (k (.bool false))⟩])
  (.seq (.seq (.reg [⟨(some 9), none, .pcall (k (.fn 9 [] [])) []⟩, ⟨(some 10), none, .un .not (t 9)⟩, ⟨(some 11), none, .mv (t 10)⟩, ⟨(some 12), (some (11, false)), .load true 4 (t 2)⟩, ⟨(some 13), (some (11, false)), .load true 4 (t 3)⟩, ⟨(some 14), (some (11, false)), .pcall (k (.fn 10 [] [])) [(t 12), (t 13)]⟩, ⟨(some 15), (some (11, false)), .un .not (t 14)⟩, ⟨(some 16), none, .pick (t 11) (k (.bool true)) (t 15)⟩])
  (.cond (t 16)
  (.seq (.reg [⟨(some 17), none, .pcall (k (.fn 9 [] [])) []⟩, ⟨(some 4), none, .mv (t 17)⟩])
  .ret)
  .skip))
  (.seq (.reg [⟨(some 19), none, .load true 4 (t 2)⟩, ⟨(some 20), none, .load true 4 (t 3)⟩, ⟨(some 21), none, .pcall (k (.fn 19 [] [])) [(t 19), (t 20)]⟩, ⟨(some 18), none, .mv (t 21)⟩, ⟨(some 22), none, .ext 0 (t 18)⟩, ⟨(some 23), none, .ext 1 (t 18)⟩, ⟨(some 5), none, .mv (t 22)⟩, ⟨(some 6), none, .mv (t 23)⟩])
  (.seq (.seq (.reg [⟨(some 24), none, .load true 4 (t 2)⟩, ⟨(some 25), none, .pcall (k (.fn 12 [] [])) [(t 24)]⟩, ⟨(some 26), none, .un .not (t 25)⟩, ⟨(some 27), none, .mv (t 26)⟩, ⟨(some 28), (some (27, false)), .load true 4 (t 3)⟩, ⟨(some 29), (some (27, false)), .pcall (k (.fn 12 [] [])) [(t 28)]⟩, ⟨(some 30), (some (27, false)), .un .not (t 29)⟩, ⟨(some 31), none, .pick (t 27) (k (.bool true)) (t 30)⟩])
  (.cond (t 31)
  (.seq (.reg [⟨(some 32), none, .mv (t 6)⟩, ⟨(some 33), none, .bin .eql (t 32) (k (.int .i64 1))⟩, ⟨(some 34), none, .mv (t 33)⟩, ⟨(some 35), (some (34, true)), .mv (t 5)⟩, ⟨(some 36), (some (34, true)), .un .not (t 35)⟩, ⟨(some 37), none, .pick (t 34) (t 36) (k (.bool false))⟩, ⟨(some 4), none, .mv (t 37)⟩])
  .ret)
  .skip))
  (.seq (.seq (.draw 0 [(⟨(some 38), none, .faddr 0 (t 3)⟩, []), (⟨(some 39), none, .load false 1 (t 38)⟩, []), (⟨(some 40), none, .bin .neq (t 39) (k (.int .i64 5))⟩, []), (⟨(some 41), none, .mv (t 40)⟩, []), (⟨(some 42), (some (41, false)), .faddr 0 (t 2)⟩, []), (⟨(some 43), (some (41, false)), .load false 1 (t 42)⟩, []), (⟨(some 44), (some (41, false)), .bin .eql (t 43) (k (.int .i64 0))⟩, []), (⟨(some 45), none, .pick (t 41) (k (.bool true)) (t 44)⟩, []), (⟨(some 46), none, .mv (t 45)⟩, []), (⟨(some 47), (some (46, false)), .faddr 0 (t 2)⟩, []), (⟨(some 48), (some (46, false)), .load false 1 (t 47)⟩, []), (⟨(some 49), (some (46, false)), .bin .eql (t 48) (k (.int .i64 5))⟩, []), (⟨(some 50), none, .pick (t 46) (k (.bool true)) (t 49)⟩, []), (⟨(some 51), none, .mv (t 50)⟩, []), (⟨(some 52), (some (51, false)), .faddr 3 (t 3)⟩, []), (⟨(some 53), (some (51, false)), .load false 1 (t 52)⟩, []), (⟨(some 54), (some (51, false)), .len (t 53)⟩, []), (⟨(some 55), (some (51, false)), .bin .gtr (t 54) (k (.int .i64 0))⟩, []), (⟨(some 56), (some (51, false)), .mv (t 55)⟩, []), (⟨(some 57), (some (56, true)), .faddr 3 (t 3)⟩, []), (⟨(some 58), (some (56, true)), .load false 1 (t 57)⟩, []), (⟨(some 59), (some (56, true)), .iaddr 4 (t 58) (k (.int .i64 0))⟩, []), (⟨(some 60), (some (56, true)), .faddr 0 (t 59)⟩, []), (⟨(some 61), (some (56, true)), .load false 1 (t 60)⟩, []), (⟨(some 62), (some (56, true)), .faddr 0 (t 2)⟩, []), (⟨(some 63), (some (56, true)), .load false 1 (t 62)⟩, []), (⟨(some 64), (some (56, true)), .bin .neq (t 61) (t 63)⟩, []), (⟨(some 65), (some (51, false)), .pick (t 56) (t 64) (k (.bool false))⟩, []), (⟨(some 66), none, .pick (t 51) (k (.bool true)) (t 65)⟩, [])])
  (.cond (t 66)
  (.seq (.reg [⟨(some 67), none, .mv (t 6)⟩, ⟨(some 68), none, .bin .eql (t 67) (k (.int .i64 6))⟩, ⟨(some 69), none, .mv (t 68)⟩, ⟨(some 70), (some (69, true)), .mv (t 5)⟩, ⟨(some 71), (some (69, true)), .un .not (t 70)⟩, ⟨(some 72), none, .pick (t 69) (t 71) (k (.bool false))⟩, ⟨(some 4), none, .mv (t 72)⟩])
  .ret)
  .skip))
  (.seq (.reg [⟨(some 7), none, .mv (k (.bool false))⟩])
  (.seq (.seq (.reg [⟨(some 8), none, .mv (k (.int .i64 0))⟩])
  (.block 0
  (.loop
  (.seq (.seq (.reg [⟨(some 73), none, .mv (t 8)⟩, ⟨(some 74), none, .faddr 3 (t 3)⟩, ⟨(some 75), none, .load false 1 (t 74)⟩, ⟨(some 76), none, .len (t 75)⟩, ⟨(some 77), none, .bin .lss (t 73) (t 76)⟩])
  (.cond (t 77)
  .skip
  (.exit 0)))
  (.seq (.block 1
  (.draw 0 [(⟨(some 80), none, .mv (t 7)⟩, []), (⟨(some 81), none, .mv (t 80)⟩, []), (⟨(some 82), (some (81, false)), .faddr 3 (t 3)⟩, []), (⟨(some 83), (some (81, false)), .load false 1 (t 82)⟩, []), (⟨(some 84), (some (81, false)), .mv (t 8)⟩, []), (⟨(some 85), (some (81, false)), .iaddr 4 (t 83) (t 84)⟩, []), (⟨(some 86), (some (81, false)), .load true 4 (t 85)⟩, []), (⟨(some 87), (some (81, false)), .load true 4 (t 2)⟩, []), (⟨(some 88), (some (81, false)), .pcall (k (.fn 14 [] [])) [(t 86), (t 87)]⟩, []), (⟨(some 89), (some (81, false)), .bin .eql (t 88) (k (.int .i64 0))⟩, []), (⟨(some 90), none, .pick (t 81) (k (.bool true)) (t 89)⟩, []), (⟨(some 7), none, .mv (t 90)⟩, [])]))
  (.reg [⟨(some 78), none, .mv (t 8)⟩, ⟨(some 79), none, .bin .add (t 78) (k (.int .i64 1))⟩, ⟨(some 8), none, .mv (t 79)⟩]))))))
  (.seq (.reg [⟨(some 91), none, .mv (t 6)⟩, ⟨(some 92), none, .bin .eql (t 91) (k (.int .i64 0))⟩, ⟨(some 93), none, .mv (t 92)⟩, ⟨(some 94), (some (93, true)), .mv (t 5)⟩, ⟨(some 95), (some (93, true)), .mv (t 7)⟩, ⟨(some 96), (some (93, true)), .eq1 .bool false (t 94) (t 95)⟩, ⟨(some 97), none, .pick (t 93) (t 96) (k (.bool false))⟩, ⟨(some 4), none, .mv (t 97)⟩])
  .ret))))))))
theorem fn5 : Fn Go.Proofs.Try.prog 5 98 [.inl 4] c5 :=
  ⟨⟨_, _, Go.Proofs.Try.func5, rfl, by kernel_rfl, Go.Proofs.Try.ntmps5, by kernel_rfl, ⟨fun f => imp.contains f, false⟩, by kernel_rfl⟩⟩


def c6 : C :=
  (.seq (.reg [⟨(some 4), none, .box (t 1)⟩, ⟨(some 5), none, .box (t 2)⟩, ⟨(some 6), none, .mv (k (.bool false))⟩])
  (.seq (.seq (.reg [⟨(some 12), none, .pcall (k (.fn 9 [] [])) []⟩, ⟨(some 13), none, .un .not (t 12)⟩, ⟨(some 14), none, .mv (t 13)⟩, ⟨(some 15), (some (14, false)), .load true 4 (t 4)⟩, ⟨(some 16), (some (14, false)), .load true 4 (t 5)⟩, ⟨(some 17), (some (14, false)), .pcall (k (.fn 10 [] [])) [(t 15), (t 16)]⟩, ⟨(some 18), (some (14, false)), .un .not (t 17)⟩, ⟨(some 19), none, .pick (t 14) (k (.bool true)) (t 18)⟩])
  (.cond (t 19)
  (.seq (.reg [⟨(some 20), none, .pcall (k (.fn 9 [] [])) []⟩, ⟨(some 6), none, .mv (t 20)⟩])
  .ret)
  .skip))
  (.seq (.reg [⟨(some 22), none, .mv (t 0)⟩, ⟨(some 23), none, .load true 4 (t 4)⟩, ⟨(some 24), none, .load true 4 (t 5)⟩, ⟨(some 25), none, .pcall (k (.fn 20 [] [])) [(t 22), (t 23), (t 24)]⟩, ⟨(some 21), none, .mv (t 25)⟩, ⟨(some 26), none, .ext 0 (t 21)⟩, ⟨(some 27), none, .ext 1 (t 21)⟩, ⟨(some 7), none, .mv (t 26)⟩, ⟨(some 8), none, .mv (t 27)⟩])
  (.seq (.reg [⟨(some 28), none, .mv (t 0)⟩, ⟨(some 29), none, .bin .eql (t 28) (k (.str [61, 61]))⟩, ⟨(some 30), none, .mv (t 29)⟩, ⟨(some 31), (some (30, false)), .mv (t 0)⟩, ⟨(some 32), (some (30, false)), .bin .eql (t 31) (k (.str [33, 61]))⟩, ⟨(some 33), none, .pick (t 30) (k (.bool true)) (t 32)⟩, ⟨(some 34), none, .mv (t 33)⟩, ⟨(some 35), (some (34, false)), .mv (t 0)⟩, ⟨(some 36), (some (34, false)), .bin .eql (t 35) (k (.str [60]))⟩, ⟨(some 37), none, .pick (t 34) (k (.bool true)) (t 36)⟩, ⟨(some 38), none, .mv (t 37)⟩, ⟨(some 39), (some (38, false)), .mv (t 0)⟩, ⟨(some 40), (some (38, false)), .bin .eql (t 39) (k (.str [60, 61]))⟩, ⟨(some 41), none, .pick (t 38) (k (.bool true)) (t 40)⟩, ⟨(some 42), none, .mv (t 41)⟩, ⟨(some 43), (some (42, false)), .mv (t 0)⟩, ⟨(some 44), (some (42, false)), .bin .eql (t 43) (k (.str [62]))⟩, ⟨(some 45), none, .pick (t 42) (k (.bool true)) (t 44)⟩, ⟨(some 46), none, .mv (t 45)⟩, ⟨(some 47), (some (46, false)), .mv (t 0)⟩, ⟨(some 48), (some (46, false)), .bin .eql (t 47) (k (.str [62, 61]))⟩, ⟨(some 49), none, .pick (t 46) (k (.bool true)) (t 48)⟩, ⟨(some 9), none, .mv (t 49)⟩])
  (.seq (.seq (.reg [⟨(some 50), none, .mv (t 9)⟩, ⟨(some 51), none, .un .not (t 50)⟩, ⟨(some 52), none, .mv (t 51)⟩, ⟨(some 53), (some (52, false)), .load true 4 (t 4)⟩, ⟨(some 54), (some (52, false)), .pcall (k (.fn 12 [] [])) [(t 53)]⟩, ⟨(some 55), (some (52, false)), .un .not (t 54)⟩, ⟨(some 56), none, .pick (t 52) (k (.bool true)) (t 55)⟩, ⟨(some 57), none, .mv (t 56)⟩, ⟨(some 58), (some (57, false)), .load true 4 (t 5)⟩, ⟨(some 59), (some (57, false)), .pcall (k (.fn 12 [] [])) [(t 58)]⟩, ⟨(some 60), (some (57, false)), .un .not (t 59)⟩, ⟨(some 61), none, .pick (t 57) (k (.bool true)) (t 60)⟩])
  (.cond (t 61)
  (.seq (.reg [⟨(some 62), none, .mv (t 8)⟩, ⟨(some 63), none, .bin .eql (t 62) (k (.int .i64 1))⟩, ⟨(some 64), none, .mv (t 63)⟩, ⟨(some 65), (some (64, true)), .mv (t 7)⟩, ⟨(some 66), (some (64, true)), .un .not (t 65)⟩, ⟨(some 67), none, .pick (t 64) (t 66) (k (.bool false))⟩, ⟨(some 6), none, .mv (t 67)⟩])
  .ret)
  .skip))
  (.seq (.reg [⟨(some 69), none, .mv (t 0)⟩, ⟨(some 70), none, .load true 4 (t 4)⟩, ⟨(some 71), none, .load true 4 (t 5)⟩, ⟨(some 72), none, .pcall (k (.fn 21 [] [])) [(t 69), (t 70), (t 71)]⟩, ⟨(some 68), none, .mv (t 72)⟩, ⟨(some 73), none, .ext 0 (t 68)⟩, ⟨(some 74), none, .ext 1 (t 68)⟩, ⟨(some 10), none, .mv (t 73)⟩, ⟨(some 11), none, .mv (t 74)⟩])
  (.seq (.reg [⟨(some 75), none, .mv (t 7)⟩, ⟨(some 76), none, .mv (t 10)⟩, ⟨(some 77), none, .eq1 .bool false (t 75) (t 76)⟩, ⟨(some 78), none, .mv (t 77)⟩, ⟨(some 79), (some (78, true)), .mv (t 8)⟩, ⟨(some 80), (some (78, true)), .mv (t 11)⟩, ⟨(some 81), (some (78, true)), .bin .eql (t 79) (t 80)⟩, ⟨(some 82), none, .pick (t 78) (t 81) (k (.bool false))⟩, ⟨(some 6), none, .mv (t 82)⟩])
  .ret)))))))
theorem fn6 : Fn Go.Proofs.Try.prog 6 83 [.inl 6] c6 :=
  ⟨⟨_, _, Go.Proofs.Try.func6, rfl, by kernel_rfl, Go.Proofs.Try.ntmps6, by kernel_rfl, ⟨fun f => imp.contains f, false⟩, by kernel_rfl⟩⟩


def c10 : C :=
  (.seq (.reg [⟨(some 2), none, .box (t 0)⟩, ⟨(some 3), none, .box (t 1)⟩, ⟨(some 4), none, .mv (k (.bool false))⟩])
  (.seq (.reg [⟨(some 5), none, .load true 4 (t 2)⟩, ⟨(some 6), none, .load true 4 (t 3)⟩, ⟨(some 7), none, .bsl 4 [(t 5), (t 6)]⟩, ⟨(some 8), none, .pcall (k (.fn 28 [] [])) [(t 7), (k (.int .i64 2))]⟩, ⟨(some 4), none, .mv (t 8)⟩])
  .ret))
theorem fn10 : Fn Go.Proofs.Try.prog 10 9 [.inl 4] c10 :=
  ⟨⟨_, _, Go.Proofs.Try.func10, rfl, by kernel_rfl, Go.Proofs.Try.ntmps10, by kernel_rfl, ⟨fun f => imp.contains f, false⟩, by kernel_rfl⟩⟩


def c12 : C :=
  (.seq (.reg [⟨(some 1), none, .box (t 0)⟩, ⟨(some 2), none, .mv (k (.bool false))⟩])
  (.seq (.seq (.reg [⟨(some 4), none, .faddr 0 (t 1)⟩, ⟨(some 5), none, .load false 1 (t 4)⟩, ⟨(some 6), none, .bin .neq (t 5) (k (.int .i64 5))⟩])
  (.cond (t 6)
  (.seq (.reg [⟨(some 7), none, .load true 4 (t 1)⟩, ⟨(some 8), none, .pcall (k (.fn 32 [] [])) [(t 7)]⟩, ⟨(some 2), none, .mv (t 8)⟩])
  .ret)
  .skip))
  (.seq (.seq (.reg [⟨(some 9), none, .faddr 1 (t 1)⟩, ⟨(some 10), none, .load false 1 (t 9)⟩, ⟨(some 11), none, .bin .neq (t 10) (k (.int .i64 0))⟩, ⟨(some 12), none, .mv (t 11)⟩, ⟨(some 13), (some (12, false)), .faddr 2 (t 1)⟩, ⟨(some 14), (some (12, false)), .load false 1 (t 13)⟩, ⟨(some 15), (some (12, false)), .bin .neq (t 14) (k (.str []))⟩, ⟨(some 16), none, .pick (t 12) (k (.bool true)) (t 15)⟩, ⟨(some 17), none, .mv (t 16)⟩, ⟨(some 18), (some (17, false)), .faddr 3 (t 1)⟩, ⟨(some 19), (some (17, false)), .load false 1 (t 18)⟩, ⟨(some 20), (some (17, false)), .len (t 19)⟩, ⟨(some 21), (some (17, false)), .bin .gtr (t 20) (k (.int .i64 16))⟩, ⟨(some 22), none, .pick (t 17) (k (.bool true)) (t 21)⟩])
  (.cond (t 22)
  (.seq (.reg [⟨(some 2), none, .mv (k (.bool false))⟩])
  .ret)
  .skip))
  (.seq (.seq (.reg [⟨(some 3), none, .mv (k (.int .i64 0))⟩])
  (.block 0
  (.loop
  (.seq (.seq (.reg [⟨(some 23), none, .mv (t 3)⟩, ⟨(some 24), none, .faddr 3 (t 1)⟩, ⟨(some 25), none, .load false 1 (t 24)⟩, ⟨(some 26), none, .len (t 25)⟩, ⟨(some 27), none, .bin .lss (t 23) (t 26)⟩])
  (.cond (t 27)
  .skip
  (.exit 0)))
  (.seq (.block 1
  (.seq (.draw 0 [(⟨(some 30), none, .faddr 3 (t 1)⟩, []), (⟨(some 31), none, .load false 1 (t 30)⟩, []), (⟨(some 32), none, .mv (t 3)⟩, []), (⟨(some 33), none, .iaddr 4 (t 31) (t 32)⟩, []), (⟨(some 34), none, .load true 4 (t 33)⟩, []), (⟨(some 35), none, .pcall (k (.fn 32 [] [])) [(t 34)]⟩, []), (⟨(some 36), none, .un .not (t 35)⟩, []), (⟨(some 37), none, .mv (t 36)⟩, []), (⟨(some 38), (some (37, false)), .faddr 3 (t 1)⟩, []), (⟨(some 39), (some (37, false)), .load false 1 (t 38)⟩, []), (⟨(some 40), (some (37, false)), .mv (t 3)⟩, []), (⟨(some 41), (some (37, false)), .iaddr 4 (t 39) (t 40)⟩, []), (⟨(some 42), (some (37, false)), .faddr 0 (t 41)⟩, []), (⟨(some 43), (some (37, false)), .load false 1 (t 42)⟩, []), (⟨(some 44), (some (37, false)), .bin .eql (t 43) (k (.int .i64 0))⟩, []), (⟨(some 45), none, .pick (t 37) (k (.bool true)) (t 44)⟩, []), (⟨(some 46), none, .mv (t 45)⟩, []), (⟨(some 47), (some (46, false)), .faddr 3 (t 1)⟩, []), (⟨(some 48), (some (46, false)), .load false 1 (t 47)⟩, []), (⟨(some 49), (some (46, false)), .mv (t 3)⟩, []), (⟨(some 50), (some (46, false)), .iaddr 4 (t 48) (t 49)⟩, []), (⟨(some 51), (some (46, false)), .faddr 0 (t 50)⟩, []), (⟨(some 52), (some (46, false)), .load false 1 (t 51)⟩, []), (⟨(some 53), (some (46, false)), .faddr 3 (t 1)⟩, []), (⟨(some 54), (some (46, false)), .load false 1 (t 53)⟩, []), (⟨(some 55), (some (46, false)), .iaddr 4 (t 54) (k (.int .i64 0))⟩, []), (⟨(some 56), (some (46, false)), .faddr 0 (t 55)⟩, []), (⟨(some 57), (some (46, false)), .load false 1 (t 56)⟩, []), (⟨(some 58), (some (46, false)), .bin .neq (t 52) (t 57)⟩, []), (⟨(some 59), none, .pick (t 46) (k (.bool true)) (t 58)⟩, []), (⟨(some 60), none, .mv (t 59)⟩, []), (⟨(some 61), (some (60, false)), .mv (t 3)⟩, []), (⟨(some 62), (some (60, false)), .bin .gtr (t 61) (k (.int .i64 0))⟩, []), (⟨(some 63), (some (60, false)), .mv (t 62)⟩, []), (⟨(some 64), (some (63, true)), .faddr 3 (t 1)⟩, []), (⟨(some 65), (some (63, true)), .load false 1 (t 64)⟩, []), (⟨(some 66), (some (63, true)), .mv (t 3)⟩, []), (⟨(some 67), (some (63, true)), .bin .sub (t 66) (k (.int .i64 1))⟩, []), (⟨(some 68), (some (63, true)), .iaddr 4 (t 65) (t 67)⟩, []), (⟨(some 69), (some (63, true)), .load true 4 (t 68)⟩, []), (⟨(some 70), (some (63, true)), .faddr 3 (t 1)⟩, []), (⟨(some 71), (some (63, true)), .load false 1 (t 70)⟩, []), (⟨(some 72), (some (63, true)), .mv (t 3)⟩, []), (⟨(some 73), (some (63, true)), .iaddr 4 (t 71) (t 72)⟩, []), (⟨(some 74), (some (63, true)), .load true 4 (t 73)⟩, []), (⟨(some 75), (some (63, true)), .pcall (k (.fn 33 [] [])) [(t 69), (t 74)]⟩, []), (⟨(some 76), (some (63, true)), .bin .geq (t 75) (k (.int .i64 0))⟩, []), (⟨(some 77), (some (60, false)), .pick (t 63) (t 76) (k (.bool false))⟩, []), (⟨(some 78), none, .pick (t 60) (k (.bool true)) (t 77)⟩, [])])
  (.cond (t 78)
  (.seq (.reg [⟨(some 2), none, .mv (k (.bool false))⟩])
  .ret)
  .skip)))
  (.reg [⟨(some 28), none, .mv (t 3)⟩, ⟨(some 29), none, .bin .add (t 28) (k (.int .i64 1))⟩, ⟨(some 3), none, .mv (t 29)⟩]))))))
  (.seq (.reg [⟨(some 2), none, .mv (k (.bool true))⟩])
  .ret)))))
theorem fn12 : Fn Go.Proofs.Try.prog 12 79 [.inl 2] c12 :=
  ⟨⟨_, _, Go.Proofs.Try.func12, rfl, by kernel_rfl, Go.Proofs.Try.ntmps12, by kernel_rfl, ⟨fun f => imp.contains f, false⟩, by kernel_rfl⟩⟩


def c13 : C :=
  (.seq (.reg [⟨(some 2), none, .box (t 0)⟩, ⟨(some 3), none, .box (t 1)⟩, ⟨(some 4), none, .mv (k (.int .i64 0))⟩])
  (.seq (.seq (.draw 0 [(⟨(some 6), none, .faddr 0 (t 2)⟩, []), (⟨(some 7), none, .load false 1 (t 6)⟩, []), (⟨(some 8), none, .faddr 0 (t 3)⟩, []), (⟨(some 9), none, .load false 1 (t 8)⟩, []), (⟨(some 10), none, .pcall (k (.fn 35 [] [])) [(t 7), (t 9)]⟩, []), (⟨(some 11), none, .faddr 1 (t 2)⟩, []), (⟨(some 12), none, .load false 1 (t 11)⟩, []), (⟨(some 13), none, .faddr 1 (t 3)⟩, []), (⟨(some 14), none, .load false 1 (t 13)⟩, []), (⟨(some 15), none, .pcall (k (.fn 36 [] [])) [(t 12), (t 14)]⟩, []), (⟨(some 16), none, .faddr 2 (t 2)⟩, []), (⟨(some 17), none, .load false 1 (t 16)⟩, []), (⟨(some 18), none, .faddr 2 (t 3)⟩, []), (⟨(some 19), none, .load false 1 (t 18)⟩, []), (⟨(some 20), none, .pcall (k (.fn 37 [] [])) [(t 17), (t 19)]⟩, []), (⟨(some 21), none, .bslq 1 [(t 10), (t 15), (t 20)]⟩, []), (⟨(some 22), none, .pcall (k (.fn 34 [] [])) [(t 21)]⟩, []), (⟨(some 5), none, .mv (t 22)⟩, [])])
  (.seq (.reg [⟨(some 23), none, .mv (t 5)⟩, ⟨(some 24), none, .bin .neq (t 23) (k (.int .i64 0))⟩])
  (.cond (t 24)
  (.seq (.reg [⟨(some 25), none, .mv (t 5)⟩, ⟨(some 4), none, .mv (t 25)⟩])
  .ret)
  .skip)))
  (.seq (.reg [⟨(some 26), none, .faddr 3 (t 2)⟩, ⟨(some 27), none, .load false 1 (t 26)⟩, ⟨(some 28), none, .faddr 3 (t 3)⟩, ⟨(some 29), none, .load false 1 (t 28)⟩, ⟨(some 30), none, .pcall (k (.fn 38 [] [])) [(t 27), (t 29), (k (.fn 13 [] []))]⟩, ⟨(some 4), none, .mv (t 30)⟩])
  .ret)))
theorem fn13 : Fn Go.Proofs.Try.prog 13 31 [.inl 4] c13 :=
  ⟨⟨_, _, Go.Proofs.Try.func13, rfl, by kernel_rfl, Go.Proofs.Try.ntmps13, by kernel_rfl, ⟨fun f => imp.contains f, false⟩, by kernel_rfl⟩⟩


def c14 : C :=
  (.seq (.reg [⟨(some 2), none, .box (t 0)⟩, ⟨(some 3), none, .box (t 1)⟩, ⟨(some 4), none, .mv (k (.int .i64 0))⟩])
  (.seq (.seq (.reg [⟨(some 7), none, .faddr 0 (t 2)⟩, ⟨(some 8), none, .load false 1 (t 7)⟩, ⟨(some 9), none, .bin .neq (t 8) (k (.int .i64 5))⟩, ⟨(some 10), none, .mv (t 9)⟩, ⟨(some 11), (some (10, false)), .faddr 0 (t 3)⟩, ⟨(some 12), (some (10, false)), .load false 1 (t 11)⟩, ⟨(some 13), (some (10, false)), .bin .neq (t 12) (k (.int .i64 5))⟩, ⟨(some 14), none, .pick (t 10) (k (.bool true)) (t 13)⟩])
  (.cond (t 14)
  (.seq (.reg [⟨(some 15), none, .load true 4 (t 2)⟩, ⟨(some 16), none, .load true 4 (t 3)⟩, ⟨(some 17), none, .pcall (k (.fn 33 [] [])) [(t 15), (t 16)]⟩, ⟨(some 4), none, .mv (t 17)⟩])
  .ret)
  .skip))
  (.seq (.seq (.reg [⟨(some 5), none, .mv (k (.int .i64 0))⟩])
  (.block 0
  (.loop
  (.seq (.seq (.reg [⟨(some 18), none, .mv (t 5)⟩, ⟨(some 19), none, .faddr 3 (t 2)⟩, ⟨(some 20), none, .load false 1 (t 19)⟩, ⟨(some 21), none, .len (t 20)⟩, ⟨(some 22), none, .bin .lss (t 18) (t 21)⟩, ⟨(some 23), none, .mv (t 22)⟩, ⟨(some 24), (some (23, true)), .mv (t 5)⟩, ⟨(some 25), (some (23, true)), .faddr 3 (t 3)⟩, ⟨(some 26), (some (23, true)), .load false 1 (t 25)⟩, ⟨(some 27), (some (23, true)), .len (t 26)⟩, ⟨(some 28), (some (23, true)), .bin .lss (t 24) (t 27)⟩, ⟨(some 29), none, .pick (t 23) (t 28) (k (.bool false))⟩])
  (.cond (t 29)
  .skip
  (.exit 0)))
  (.seq (.block 1
  (.seq (.draw 0 [(⟨(some 32), none, .faddr 3 (t 2)⟩, []), (⟨(some 33), none, .load false 1 (t 32)⟩, []), (⟨(some 34), none, .mv (t 5)⟩, []), (⟨(some 35), none, .iaddr 4 (t 33) (t 34)⟩, []), (⟨(some 36), none, .load true 4 (t 35)⟩, []), (⟨(some 37), none, .faddr 3 (t 3)⟩, []), (⟨(some 38), none, .load false 1 (t 37)⟩, []), (⟨(some 39), none, .mv (t 5)⟩, []), (⟨(some 40), none, .iaddr 4 (t 38) (t 39)⟩, []), (⟨(some 41), none, .load true 4 (t 40)⟩, []), (⟨(some 42), none, .pcall (k (.fn 33 [] [])) [(t 36), (t 41)]⟩, []), (⟨(some 6), none, .mv (t 42)⟩, [])])
  (.seq (.reg [⟨(some 43), none, .mv (t 6)⟩, ⟨(some 44), none, .bin .neq (t 43) (k (.int .i64 0))⟩])
  (.cond (t 44)
  (.seq (.reg [⟨(some 45), none, .mv (t 6)⟩, ⟨(some 4), none, .mv (t 45)⟩])
  .ret)
  .skip))))
  (.reg [⟨(some 30), none, .mv (t 5)⟩, ⟨(some 31), none, .bin .add (t 30) (k (.int .i64 1))⟩, ⟨(some 5), none, .mv (t 31)⟩]))))))
  (.seq (.reg [⟨(some 46), none, .faddr 3 (t 2)⟩, ⟨(some 47), none, .load false 1 (t 46)⟩, ⟨(some 48), none, .len (t 47)⟩, ⟨(some 49), none, .faddr 3 (t 3)⟩, ⟨(some 50), none, .load false 1 (t 49)⟩, ⟨(some 51), none, .len (t 50)⟩, ⟨(some 52), none, .pcall (k (.fn 39 [] [])) [(t 48), (t 51)]⟩, ⟨(some 4), none, .mv (t 52)⟩])
  .ret))))
theorem fn14 : Fn Go.Proofs.Try.prog 14 53 [.inl 4] c14 :=
  ⟨⟨_, _, Go.Proofs.Try.func14, rfl, by kernel_rfl, Go.Proofs.Try.ntmps14, by kernel_rfl, ⟨fun f => imp.contains f, false⟩, by kernel_rfl⟩⟩


def c19 : C :=
  (.seq (.reg [⟨(some 2), none, .box (t 0)⟩, ⟨(some 3), none, .box (t 1)⟩, ⟨(some 4), none, .mv (k (.bool false))⟩, ⟨(some 5), none, .mv (k (.int .i64 0))⟩])
  (.seq (.block 0
  (.seq (.reg [⟨(some 7), none, .load true 4 (t 2)⟩, ⟨(some 8), none, .pcall (k (.fn 11 [] [])) [(t 7)]⟩, ⟨(some 9), none, .un .not (t 8)⟩, ⟨(some 10), none, .mv (t 9)⟩, ⟨(some 11), (some (10, false)), .load true 4 (t 3)⟩, ⟨(some 12), (some (10, false)), .pcall (k (.fn 11 [] [])) [(t 11)]⟩, ⟨(some 13), (some (10, false)), .un .not (t 12)⟩, ⟨(some 14), none, .pick (t 10) (k (.bool true)) (t 13)⟩, ⟨(some 6), none, .mv (t 14)⟩])
  (.cond (t 6)
  (.seq (.reg [⟨(some 4), none, .mv (k (.bool false))⟩, ⟨(some 5), none, .mv (k (.int .i64 1))⟩])
  .ret)
  (.seq (.reg [⟨(some 16), none, .faddr 0 (t 3)⟩, ⟨(some 17), none, .load false 1 (t 16)⟩, ⟨(some 18), none, .bin .neq (t 17) (k (.int .i64 5))⟩, ⟨(some 19), none, .mv (t 18)⟩, ⟨(some 20), (some (19, false)), .faddr 0 (t 2)⟩, ⟨(some 21), (some (19, false)), .load false 1 (t 20)⟩, ⟨(some 22), (some (19, false)), .bin .eql (t 21) (k (.int .i64 0))⟩, ⟨(some 23), none, .pick (t 19) (k (.bool true)) (t 22)⟩, ⟨(some 24), none, .mv (t 23)⟩, ⟨(some 25), (some (24, false)), .faddr 0 (t 2)⟩, ⟨(some 26), (some (24, false)), .load false 1 (t 25)⟩, ⟨(some 27), (some (24, false)), .bin .eql (t 26) (k (.int .i64 5))⟩, ⟨(some 28), none, .pick (t 24) (k (.bool true)) (t 27)⟩, ⟨(some 15), none, .mv (t 28)⟩])
  (.cond (t 15)
  (.seq (.reg [⟨(some 4), none, .mv (k (.bool false))⟩, ⟨(some 5), none, .mv (k (.int .i64 6))⟩])
  .ret)
  (.seq (.draw 0 [(⟨(some 30), none, .faddr 3 (t 3)⟩, []), (⟨(some 31), none, .load false 1 (t 30)⟩, []), (⟨(some 32), none, .len (t 31)⟩, []), (⟨(some 33), none, .bin .gtr (t 32) (k (.int .i64 0))⟩, []), (⟨(some 34), none, .mv (t 33)⟩, []), (⟨(some 35), (some (34, true)), .faddr 3 (t 3)⟩, []), (⟨(some 36), (some (34, true)), .load false 1 (t 35)⟩, []), (⟨(some 37), (some (34, true)), .iaddr 4 (t 36) (k (.int .i64 0))⟩, []), (⟨(some 38), (some (34, true)), .faddr 0 (t 37)⟩, []), (⟨(some 39), (some (34, true)), .load false 1 (t 38)⟩, []), (⟨(some 40), (some (34, true)), .faddr 0 (t 2)⟩, []), (⟨(some 41), (some (34, true)), .load false 1 (t 40)⟩, []), (⟨(some 42), (some (34, true)), .bin .neq (t 39) (t 41)⟩, []), (⟨(some 43), none, .pick (t 34) (t 42) (k (.bool false))⟩, []), (⟨(some 29), none, .mv (t 43)⟩, [])])
  (.cond (t 29)
  (.seq (.reg [⟨(some 4), none, .mv (k (.bool false))⟩, ⟨(some 5), none, .mv (k (.int .i64 6))⟩])
  .ret)
  .skip)))))))
  (.seq (.reg [⟨(some 44), none, .faddr 3 (t 3)⟩, ⟨(some 45), none, .load false 1 (t 44)⟩, ⟨(some 46), none, .mkfn 41 [] [(t 2)]⟩, ⟨(some 47), none, .pcall (k (.fn 40 [] [])) [(t 45), (t 46)]⟩, ⟨(some 4), none, .mv (t 47)⟩, ⟨(some 5), none, .mv (k (.int .i64 0))⟩])
  .ret)))
theorem fn19 : Fn Go.Proofs.Try.prog 19 48 [.inl 4, .inl 5] c19 :=
  ⟨⟨_, _, Go.Proofs.Try.func19, rfl, by kernel_rfl, Go.Proofs.Try.ntmps19, by kernel_rfl, ⟨fun f => imp.contains f, false⟩, by kernel_rfl⟩⟩


def c20 : C :=
  (.seq (.reg [⟨(some 4), none, .box (t 1)⟩, ⟨(some 5), none, .box (t 2)⟩, ⟨(some 6), none, .mv (k (.bool false))⟩, ⟨(some 7), none, .mv (k (.int .i64 0))⟩])
  (.seq (.seq (.reg [⟨(some 10), none, .load true 4 (t 4)⟩, ⟨(some 11), none, .pcall (k (.fn 11 [] [])) [(t 10)]⟩, ⟨(some 12), none, .un .not (t 11)⟩, ⟨(some 13), none, .mv (t 12)⟩, ⟨(some 14), (some (13, false)), .load true 4 (t 5)⟩, ⟨(some 15), (some (13, false)), .pcall (k (.fn 11 [] [])) [(t 14)]⟩, ⟨(some 16), (some (13, false)), .un .not (t 15)⟩, ⟨(some 17), none, .pick (t 13) (k (.bool true)) (t 16)⟩, ⟨(some 18), none, .mv (t 17)⟩, ⟨(some 19), (some (18, false)), .bsl 1 [(k (.str [61, 61])), (k (.str [33, 61])), (k (.str [60])), (k (.str [60, 61])), (k (.str [62])), (k (.str [62, 61]))]⟩, ⟨(some 20), (some (18, false)), .mv (t 0)⟩, ⟨(some 21), (some (18, false)), .pcall (k (.fn 42 [] [])) [(t 19), (t 20)]⟩, ⟨(some 22), (some (18, false)), .un .not (t 21)⟩, ⟨(some 23), none, .pick (t 18) (k (.bool true)) (t 22)⟩])
  (.cond (t 23)
  (.seq (.reg [⟨(some 6), none, .mv (k (.bool false))⟩, ⟨(some 7), none, .mv (k (.int .i64 1))⟩])
  .ret)
  .skip))
  (.seq (.reg [⟨(some 24), none, .faddr 0 (t 4)⟩, ⟨(some 25), none, .load false 1 (t 24)⟩, ⟨(some 26), none, .bin .eql (t 25) (k (.int .i64 1))⟩, ⟨(some 27), none, .mv (t 26)⟩, ⟨(some 28), (some (27, false)), .faddr 0 (t 4)⟩, ⟨(some 29), (some (27, false)), .load false 1 (t 28)⟩, ⟨(some 30), (some (27, false)), .bin .eql (t 29) (k (.int .i64 5))⟩, ⟨(some 31), none, .pick (t 27) (k (.bool true)) (t 30)⟩, ⟨(some 8), none, .mv (t 31)⟩])
  (.seq (.seq (.reg [⟨(some 32), none, .faddr 0 (t 4)⟩, ⟨(some 33), none, .load false 1 (t 32)⟩, ⟨(some 34), none, .bin .eql (t 33) (k (.int .i64 0))⟩, ⟨(some 35), none, .mv (t 34)⟩, ⟨(some 36), (some (35, false)), .faddr 0 (t 4)⟩, ⟨(some 37), (some (35, false)), .load false 1 (t 36)⟩, ⟨(some 38), (some (35, false)), .faddr 0 (t 5)⟩, ⟨(some 39), (some (35, false)), .load false 1 (t 38)⟩, ⟨(some 40), (some (35, false)), .bin .neq (t 37) (t 39)⟩, ⟨(some 41), none, .pick (t 35) (k (.bool true)) (t 40)⟩, ⟨(some 42), none, .mv (t 41)⟩, ⟨(some 43), (some (42, false)), .mv (t 8)⟩, ⟨(some 44), (some (42, false)), .mv (t 43)⟩, ⟨(some 45), (some (44, true)), .mv (t 0)⟩, ⟨(some 46), (some (44, true)), .bin .neq (t 45) (k (.str [61, 61]))⟩, ⟨(some 47), (some (42, false)), .pick (t 44) (t 46) (k (.bool false))⟩, ⟨(some 48), (some (42, false)), .mv (t 47)⟩, ⟨(some 49), (some (48, true)), .mv (t 0)⟩, ⟨(some 50), (some (48, true)), .bin .neq (t 49) (k (.str [33, 61]))⟩, ⟨(some 51), (some (42, false)), .pick (t 48) (t 50) (k (.bool false))⟩, ⟨(some 52), none, .pick (t 42) (k (.bool true)) (t 51)⟩])
  (.cond (t 52)
  (.seq (.reg [⟨(some 6), none, .mv (k (.bool false))⟩, ⟨(some 7), none, .mv (k (.int .i64 6))⟩])
  .ret)
  .skip))
  (.seq (.reg [⟨(some 53), none, .load true 4 (t 4)⟩, ⟨(some 54), none, .load true 4 (t 5)⟩, ⟨(some 55), none, .pcall (k (.fn 13 [] [])) [(t 53), (t 54)]⟩, ⟨(some 9), none, .mv (t 55)⟩])
  (.seq (.seq (.reg [⟨(some 56), none, .mv (t 0)⟩])
  (.block 0
  (.seq (.reg [⟨(some 58), none, .bin .eql (t 56) (k (.str [61, 61]))⟩, ⟨(some 57), none, .mv (t 58)⟩])
  (.cond (t 57)
  (.seq (.reg [⟨(some 59), none, .mv (t 9)⟩, ⟨(some 60), none, .bin .eql (t 59) (k (.int .i64 0))⟩, ⟨(some 6), none, .mv (t 60)⟩, ⟨(some 7), none, .mv (k (.int .i64 0))⟩])
  .ret)
  (.seq (.reg [⟨(some 62), none, .bin .eql (t 56) (k (.str [33, 61]))⟩, ⟨(some 61), none, .mv (t 62)⟩])
  (.cond (t 61)
  (.seq (.reg [⟨(some 63), none, .mv (t 9)⟩, ⟨(some 64), none, .bin .neq (t 63) (k (.int .i64 0))⟩, ⟨(some 6), none, .mv (t 64)⟩, ⟨(some 7), none, .mv (k (.int .i64 0))⟩])
  .ret)
  (.seq (.reg [⟨(some 66), none, .bin .eql (t 56) (k (.str [60]))⟩, ⟨(some 65), none, .mv (t 66)⟩])
  (.cond (t 65)
  (.seq (.reg [⟨(some 67), none, .mv (t 9)⟩, ⟨(some 68), none, .bin .lss (t 67) (k (.int .i64 0))⟩, ⟨(some 6), none, .mv (t 68)⟩, ⟨(some 7), none, .mv (k (.int .i64 0))⟩])
  .ret)
  (.seq (.reg [⟨(some 70), none, .bin .eql (t 56) (k (.str [60, 61]))⟩, ⟨(some 69), none, .mv (t 70)⟩])
  (.cond (t 69)
  (.seq (.reg [⟨(some 71), none, .mv (t 9)⟩, ⟨(some 72), none, .bin .leq (t 71) (k (.int .i64 0))⟩, ⟨(some 6), none, .mv (t 72)⟩, ⟨(some 7), none, .mv (k (.int .i64 0))⟩])
  .ret)
  (.seq (.reg [⟨(some 74), none, .bin .eql (t 56) (k (.str [62]))⟩, ⟨(some 73), none, .mv (t 74)⟩])
  (.cond (t 73)
  (.seq (.reg [⟨(some 75), none, .mv (t 9)⟩, ⟨(some 76), none, .bin .gtr (t 75) (k (.int .i64 0))⟩, ⟨(some 6), none, .mv (t 76)⟩, ⟨(some 7), none, .mv (k (.int .i64 0))⟩])
  .ret)
  .skip))))))))))))
  (.seq (.reg [⟨(some 77), none, .mv (t 9)⟩, ⟨(some 78), none, .bin .geq (t 77) (k (.int .i64 0))⟩, ⟨(some 6), none, .mv (t 78)⟩, ⟨(some 7), none, .mv (k (.int .i64 0))⟩])
  .ret)))))))
theorem fn20 : Fn Go.Proofs.Try.prog 20 79 [.inl 6, .inl 7] c20 :=
  ⟨⟨_, _, Go.Proofs.Try.func20, rfl, by kernel_rfl, Go.Proofs.Try.ntmps20, by kernel_rfl, ⟨fun f => imp.contains f, false⟩, by kernel_rfl⟩⟩


def c21 : C :=
  (.seq (.reg [⟨(some 4), none, .box (t 1)⟩, ⟨(some 5), none, .box (t 2)⟩, ⟨(some 6), none, .mv (k (.bool false))⟩, ⟨(some 7), none, .mv (k (.int .i64 0))⟩])
  (.seq (.seq (.reg [⟨(some 9), none, .faddr 0 (t 4)⟩, ⟨(some 10), none, .load false 1 (t 9)⟩, ⟨(some 11), none, .bin .eql (t 10) (k (.int .i64 0))⟩, ⟨(some 12), none, .mv (t 11)⟩, ⟨(some 13), (some (12, false)), .faddr 0 (t 4)⟩, ⟨(some 14), (some (12, false)), .load false 1 (t 13)⟩, ⟨(some 15), (some (12, false)), .faddr 0 (t 5)⟩, ⟨(some 16), (some (12, false)), .load false 1 (t 15)⟩, ⟨(some 17), (some (12, false)), .bin .neq (t 14) (t 16)⟩, ⟨(some 18), none, .pick (t 12) (k (.bool true)) (t 17)⟩])
  (.cond (t 18)
  (.seq (.reg [⟨(some 6), none, .mv (k (.bool false))⟩, ⟨(some 7), none, .mv (k (.int .i64 6))⟩])
  .ret)
  .skip))
  (.seq (.seq (.reg [⟨(some 19), none, .faddr 0 (t 4)⟩, ⟨(some 20), none, .load false 1 (t 19)⟩, ⟨(some 21), none, .bin .eql (t 20) (k (.int .i64 1))⟩, ⟨(some 22), none, .mv (t 21)⟩, ⟨(some 23), (some (22, false)), .faddr 0 (t 4)⟩, ⟨(some 24), (some (22, false)), .load false 1 (t 23)⟩, ⟨(some 25), (some (22, false)), .bin .eql (t 24) (k (.int .i64 5))⟩, ⟨(some 26), none, .pick (t 22) (k (.bool true)) (t 25)⟩, ⟨(some 27), none, .mv (t 26)⟩, ⟨(some 28), (some (27, true)), .mv (t 0)⟩, ⟨(some 29), (some (27, true)), .bin .neq (t 28) (k (.str [61, 61]))⟩, ⟨(some 30), none, .pick (t 27) (t 29) (k (.bool false))⟩, ⟨(some 31), none, .mv (t 30)⟩, ⟨(some 32), (some (31, true)), .mv (t 0)⟩, ⟨(some 33), (some (31, true)), .bin .neq (t 32) (k (.str [33, 61]))⟩, ⟨(some 34), none, .pick (t 31) (t 33) (k (.bool false))⟩])
  (.cond (t 34)
  (.seq (.reg [⟨(some 6), none, .mv (k (.bool false))⟩, ⟨(some 7), none, .mv (k (.int .i64 6))⟩])
  .ret)
  .skip))
  (.seq (.reg [⟨(some 35), none, .load true 4 (t 4)⟩, ⟨(some 36), none, .load true 4 (t 5)⟩, ⟨(some 37), none, .pcall (k (.fn 14 [] [])) [(t 35), (t 36)]⟩, ⟨(some 8), none, .mv (t 37)⟩])
  (.seq (.seq (.reg [⟨(some 38), none, .mv (t 0)⟩])
  (.block 0
  (.seq (.reg [⟨(some 40), none, .bin .eql (t 38) (k (.str [61, 61]))⟩, ⟨(some 39), none, .mv (t 40)⟩])
  (.cond (t 39)
  (.seq (.reg [⟨(some 41), none, .mv (t 8)⟩, ⟨(some 42), none, .bin .eql (t 41) (k (.int .i64 0))⟩, ⟨(some 6), none, .mv (t 42)⟩, ⟨(some 7), none, .mv (k (.int .i64 0))⟩])
  .ret)
  (.seq (.reg [⟨(some 44), none, .bin .eql (t 38) (k (.str [33, 61]))⟩, ⟨(some 43), none, .mv (t 44)⟩])
  (.cond (t 43)
  (.seq (.reg [⟨(some 45), none, .mv (t 8)⟩, ⟨(some 46), none, .bin .neq (t 45) (k (.int .i64 0))⟩, ⟨(some 6), none, .mv (t 46)⟩, ⟨(some 7), none, .mv (k (.int .i64 0))⟩])
  .ret)
  (.seq (.reg [⟨(some 48), none, .bin .eql (t 38) (k (.str [60]))⟩, ⟨(some 47), none, .mv (t 48)⟩])
  (.cond (t 47)
  (.seq (.reg [⟨(some 49), none, .mv (t 8)⟩, ⟨(some 50), none, .bin .eql (t 49) (k (.int .i64 (-1)))⟩, ⟨(some 6), none, .mv (t 50)⟩, ⟨(some 7), none, .mv (k (.int .i64 0))⟩])
  .ret)
  (.seq (.reg [⟨(some 52), none, .bin .eql (t 38) (k (.str [60, 61]))⟩, ⟨(some 51), none, .mv (t 52)⟩])
  (.cond (t 51)
  (.seq (.reg [⟨(some 53), none, .mv (t 8)⟩, ⟨(some 54), none, .bin .neq (t 53) (k (.int .i64 1))⟩, ⟨(some 6), none, .mv (t 54)⟩, ⟨(some 7), none, .mv (k (.int .i64 0))⟩])
  .ret)
  (.seq (.reg [⟨(some 56), none, .bin .eql (t 38) (k (.str [62]))⟩, ⟨(some 55), none, .mv (t 56)⟩])
  (.cond (t 55)
  (.seq (.reg [⟨(some 57), none, .mv (t 8)⟩, ⟨(some 58), none, .bin .eql (t 57) (k (.int .i64 1))⟩, ⟨(some 6), none, .mv (t 58)⟩, ⟨(some 7), none, .mv (k (.int .i64 0))⟩])
  .ret)
  .skip))))))))))))
  (.seq (.reg [⟨(some 59), none, .mv (t 8)⟩, ⟨(some 60), none, .bin .neq (t 59) (k (.int .i64 (-1)))⟩, ⟨(some 6), none, .mv (t 60)⟩, ⟨(some 7), none, .mv (k (.int .i64 0))⟩])
  .ret))))))
theorem fn21 : Fn Go.Proofs.Try.prog 21 61 [.inl 6, .inl 7] c21 :=
  ⟨⟨_, _, Go.Proofs.Try.func21, rfl, by kernel_rfl, Go.Proofs.Try.ntmps21, by kernel_rfl, ⟨fun f => imp.contains f, false⟩, by kernel_rfl⟩⟩


def c28 : C :=
  (.seq (.reg [⟨(some 4), none, .mv (k (.bool false))⟩])
  (.seq (.seq (.reg [⟨(some 5), none, .mv (k (.int .i64 0))⟩])
  (.block 0
  (.loop
  (.seq (.seq (.reg [⟨(some 7), none, .mv (t 5)⟩, ⟨(some 8), none, .mv (t 0)⟩, ⟨(some 9), none, .len (t 8)⟩, ⟨(some 10), none, .bin .lss (t 7) (t 9)⟩, ⟨(some 11), none, .mv (t 10)⟩, ⟨(some 12), (some (11, true)), .mv (t 5)⟩, ⟨(some 13), (some (11, true)), .bin .lss (t 12) (k (.int .i64 100))⟩, ⟨(some 14), none, .pick (t 11) (t 13) (k (.bool false))⟩])
  (.cond (t 14)
  .skip
  (.exit 0)))
  (.seq (.block 1
  (.seq (.seq (.reg [⟨(some 17), none, .mv (t 0)⟩, ⟨(some 18), none, .mv (t 5)⟩, ⟨(some 19), none, .iaddr 4 (t 17) (t 18)⟩, ⟨(some 20), none, .faddr 2 (t 19)⟩, ⟨(some 21), none, .load false 1 (t 20)⟩, ⟨(some 22), none, .lens (t 21)⟩, ⟨(some 23), none, .bin .gtr (t 22) (k (.int .i64 200))⟩, ⟨(some 24), none, .mv (t 23)⟩, ⟨(some 25), (some (24, false)), .mv (t 0)⟩, ⟨(some 26), (some (24, false)), .mv (t 5)⟩, ⟨(some 27), (some (24, false)), .iaddr 4 (t 25) (t 26)⟩, ⟨(some 28), (some (24, false)), .faddr 3 (t 27)⟩, ⟨(some 29), (some (24, false)), .load false 1 (t 28)⟩, ⟨(some 30), (some (24, false)), .len (t 29)⟩, ⟨(some 31), (some (24, false)), .bin .gtr (t 30) (k (.int .i64 30))⟩, ⟨(some 32), none, .pick (t 24) (k (.bool true)) (t 31)⟩])
  (.cond (t 32)
  (.seq (.reg [⟨(some 4), none, .mv (k (.bool false))⟩])
  .ret)
  .skip))
  (.seq (.reg [⟨(some 6), none, .mv (k (.int .i64 0))⟩])
  (.block 2
  (.loop
  (.seq (.seq (.reg [⟨(some 33), none, .mv (t 6)⟩, ⟨(some 34), none, .mv (t 0)⟩, ⟨(some 35), none, .mv (t 5)⟩, ⟨(some 36), none, .iaddr 4 (t 34) (t 35)⟩, ⟨(some 37), none, .faddr 3 (t 36)⟩, ⟨(some 38), none, .load false 1 (t 37)⟩, ⟨(some 39), none, .len (t 38)⟩, ⟨(some 40), none, .bin .lss (t 33) (t 39)⟩])
  (.cond (t 40)
  .skip
  (.exit 2)))
  (.seq (.block 3
  (.seq (.reg [⟨(some 43), none, .mv (t 0)⟩, ⟨(some 44), none, .mv (t 5)⟩, ⟨(some 45), none, .iaddr 4 (t 43) (t 44)⟩, ⟨(some 46), none, .faddr 3 (t 45)⟩, ⟨(some 47), none, .load false 1 (t 46)⟩, ⟨(some 48), none, .mv (t 6)⟩, ⟨(some 49), none, .iaddr 4 (t 47) (t 48)⟩, ⟨(some 50), none, .faddr 2 (t 49)⟩, ⟨(some 51), none, .load false 1 (t 50)⟩, ⟨(some 52), none, .lens (t 51)⟩, ⟨(some 53), none, .bin .gtr (t 52) (k (.int .i64 200))⟩, ⟨(some 54), none, .mv (t 53)⟩, ⟨(some 55), (some (54, false)), .mv (t 0)⟩, ⟨(some 56), (some (54, false)), .mv (t 5)⟩, ⟨(some 57), (some (54, false)), .iaddr 4 (t 55) (t 56)⟩, ⟨(some 58), (some (54, false)), .faddr 3 (t 57)⟩, ⟨(some 59), (some (54, false)), .load false 1 (t 58)⟩, ⟨(some 60), (some (54, false)), .mv (t 6)⟩, ⟨(some 61), (some (54, false)), .iaddr 4 (t 59) (t 60)⟩, ⟨(some 62), (some (54, false)), .faddr 3 (t 61)⟩, ⟨(some 63), (some (54, false)), .load false 1 (t 62)⟩, ⟨(some 64), (some (54, false)), .len (t 63)⟩, ⟨(some 65), (some (54, false)), .bin .gtr (t 64) (k (.int .i64 0))⟩, ⟨(some 66), none, .pick (t 54) (k (.bool true)) (t 65)⟩])
  (.cond (t 66)
  (.seq (.reg [⟨(some 4), none, .mv (k (.bool false))⟩])
  .ret)
  .skip)))
  (.reg [⟨(some 41), none, .mv (t 6)⟩, ⟨(some 42), none, .bin .add (t 41) (k (.int .i64 1))⟩, ⟨(some 6), none, .mv (t 42)⟩]))))))))
  (.reg [⟨(some 15), none, .mv (t 5)⟩, ⟨(some 16), none, .bin .add (t 15) (k (.int .i64 1))⟩, ⟨(some 5), none, .mv (t 16)⟩]))))))
  (.seq (.reg [⟨(some 67), none, .mv (t 0)⟩, ⟨(some 68), none, .len (t 67)⟩, ⟨(some 69), none, .mv (t 1)⟩, ⟨(some 70), none, .bin .leq (t 68) (t 69)⟩, ⟨(some 4), none, .mv (t 70)⟩])
  .ret)))
theorem fn28 : Fn Go.Proofs.Try.prog 28 71 [.inl 4] c28 :=
  ⟨⟨_, _, Go.Proofs.Try.func28, rfl, by kernel_rfl, Go.Proofs.Try.ntmps28, by kernel_rfl, ⟨fun f => imp.contains f, false⟩, by kernel_rfl⟩⟩


def c32 : C :=
  (.seq (.reg [⟨(some 1), none, .box (t 0)⟩, ⟨(some 2), none, .mv (k (.bool false))⟩])
  (.seq (.seq (.reg [⟨(some 3), none, .faddr 3 (t 1)⟩, ⟨(some 4), none, .load false 1 (t 3)⟩, ⟨(some 5), none, .len (t 4)⟩, ⟨(some 6), none, .bin .gtr (t 5) (k (.int .i64 0))⟩, ⟨(some 7), none, .mv (t 6)⟩, ⟨(some 8), (some (7, false)), .faddr 0 (t 1)⟩, ⟨(some 9), (some (7, false)), .load false 1 (t 8)⟩, ⟨(some 10), (some (7, false)), .bin .lss (t 9) (k (.int .i64 0))⟩, ⟨(some 11), none, .pick (t 7) (k (.bool true)) (t 10)⟩, ⟨(some 12), none, .mv (t 11)⟩, ⟨(some 13), (some (12, false)), .faddr 0 (t 1)⟩, ⟨(some 14), (some (12, false)), .load false 1 (t 13)⟩, ⟨(some 15), (some (12, false)), .bin .gtr (t 14) (k (.int .i64 4))⟩, ⟨(some 16), none, .pick (t 12) (k (.bool true)) (t 15)⟩])
  (.cond (t 16)
  (.seq (.reg [⟨(some 2), none, .mv (k (.bool false))⟩])
  .ret)
  .skip))
  (.seq (.seq (.reg [⟨(some 17), none, .faddr 0 (t 1)⟩, ⟨(some 18), none, .load false 1 (t 17)⟩, ⟨(some 19), none, .bin .eql (t 18) (k (.int .i64 3))⟩])
  (.cond (t 19)
  (.seq (.reg [⟨(some 20), none, .faddr 1 (t 1)⟩, ⟨(some 21), none, .load false 1 (t 20)⟩, ⟨(some 22), none, .bin .eql (t 21) (k (.int .i64 0))⟩, ⟨(some 23), none, .mv (t 22)⟩, ⟨(some 24), (some (23, true)), .faddr 2 (t 1)⟩, ⟨(some 25), (some (23, true)), .load false 1 (t 24)⟩, ⟨(some 26), (some (23, true)), .lens (t 25)⟩, ⟨(some 27), (some (23, true)), .bin .leq (t 26) (k (.int .i64 64))⟩, ⟨(some 28), none, .pick (t 23) (t 27) (k (.bool false))⟩, ⟨(some 2), none, .mv (t 28)⟩])
  .ret)
  .skip))
  (.seq (.seq (.reg [⟨(some 29), none, .faddr 2 (t 1)⟩, ⟨(some 30), none, .load false 1 (t 29)⟩, ⟨(some 31), none, .bin .neq (t 30) (k (.str []))⟩, ⟨(some 32), none, .mv (t 31)⟩, ⟨(some 33), (some (32, false)), .faddr 0 (t 1)⟩, ⟨(some 34), (some (32, false)), .load false 1 (t 33)⟩, ⟨(some 35), (some (32, false)), .bin .eql (t 34) (k (.int .i64 0))⟩, ⟨(some 36), (some (32, false)), .mv (t 35)⟩, ⟨(some 37), (some (36, true)), .faddr 1 (t 1)⟩, ⟨(some 38), (some (36, true)), .load false 1 (t 37)⟩, ⟨(some 39), (some (36, true)), .bin .neq (t 38) (k (.int .i64 0))⟩, ⟨(some 40), (some (32, false)), .pick (t 36) (t 39) (k (.bool false))⟩, ⟨(some 41), none, .pick (t 32) (k (.bool true)) (t 40)⟩, ⟨(some 42), none, .mv (t 41)⟩, ⟨(some 43), (some (42, false)), .faddr 0 (t 1)⟩, ⟨(some 44), (some (42, false)), .load false 1 (t 43)⟩, ⟨(some 45), (some (42, false)), .bin .eql (t 44) (k (.int .i64 1))⟩, ⟨(some 46), (some (42, false)), .mv (t 45)⟩, ⟨(some 47), (some (46, true)), .faddr 1 (t 1)⟩, ⟨(some 48), (some (46, true)), .load false 1 (t 47)⟩, ⟨(some 49), (some (46, true)), .bin .neq (t 48) (k (.int .i64 0))⟩, ⟨(some 50), (some (42, false)), .pick (t 46) (t 49) (k (.bool false))⟩, ⟨(some 51), (some (42, false)), .mv (t 50)⟩, ⟨(some 52), (some (51, true)), .faddr 1 (t 1)⟩, ⟨(some 53), (some (51, true)), .load false 1 (t 52)⟩, ⟨(some 54), (some (51, true)), .bin .neq (t 53) (k (.int .i64 1))⟩, ⟨(some 55), (some (42, false)), .pick (t 51) (t 54) (k (.bool false))⟩, ⟨(some 56), none, .pick (t 42) (k (.bool true)) (t 55)⟩])
  (.cond (t 56)
  (.seq (.reg [⟨(some 2), none, .mv (k (.bool false))⟩])
  .ret)
  .skip))
  (.seq (.reg [⟨(some 57), none, .faddr 0 (t 1)⟩, ⟨(some 58), none, .load false 1 (t 57)⟩, ⟨(some 59), none, .bin .neq (t 58) (k (.int .i64 4))⟩, ⟨(some 60), none, .mv (t 59)⟩, ⟨(some 61), (some (60, false)), .faddr 1 (t 1)⟩, ⟨(some 62), (some (60, false)), .load false 1 (t 61)⟩, ⟨(some 63), (some (60, false)), .bin .geq (t 62) (k (.int .i64 0))⟩, ⟨(some 64), (some (60, false)), .mv (t 63)⟩, ⟨(some 65), (some (64, true)), .faddr 1 (t 1)⟩, ⟨(some 66), (some (64, true)), .load false 1 (t 65)⟩, ⟨(some 67), (some (64, true)), .bin .leq (t 66) (k (.int .i64 1099511627776))⟩, ⟨(some 68), (some (60, false)), .pick (t 64) (t 67) (k (.bool false))⟩, ⟨(some 69), none, .pick (t 60) (k (.bool true)) (t 68)⟩, ⟨(some 2), none, .mv (t 69)⟩])
  .ret)))))
theorem fn32 : Fn Go.Proofs.Try.prog 32 70 [.inl 2] c32 :=
  ⟨⟨_, _, Go.Proofs.Try.func32, rfl, by kernel_rfl, Go.Proofs.Try.ntmps32, by kernel_rfl, ⟨fun f => imp.contains f, false⟩, by kernel_rfl⟩⟩


def c33 : C :=
  (.seq (.reg [⟨(some 2), none, .box (t 0)⟩, ⟨(some 3), none, .box (t 1)⟩, ⟨(some 4), none, .mv (k (.int .i64 0))⟩])
  (.seq (.seq (.reg [⟨(some 5), none, .faddr 0 (t 2)⟩, ⟨(some 6), none, .load false 1 (t 5)⟩, ⟨(some 7), none, .faddr 0 (t 3)⟩, ⟨(some 8), none, .load false 1 (t 7)⟩, ⟨(some 9), none, .bin .neq (t 6) (t 8)⟩])
  (.cond (t 9)
  (.seq (.reg [⟨(some 10), none, .faddr 0 (t 2)⟩, ⟨(some 11), none, .load false 1 (t 10)⟩, ⟨(some 12), none, .faddr 0 (t 3)⟩, ⟨(some 13), none, .load false 1 (t 12)⟩, ⟨(some 14), none, .pcall (k (.fn 39 [] [])) [(t 11), (t 13)]⟩, ⟨(some 4), none, .mv (t 14)⟩])
  .ret)
  .skip))
  (.seq (.seq (.reg [⟨(some 15), none, .faddr 0 (t 2)⟩, ⟨(some 16), none, .load false 1 (t 15)⟩, ⟨(some 17), none, .bin .eql (t 16) (k (.int .i64 3))⟩])
  (.cond (t 17)
  (.seq (.reg [⟨(some 18), none, .faddr 2 (t 2)⟩, ⟨(some 19), none, .load false 1 (t 18)⟩, ⟨(some 20), none, .faddr 2 (t 3)⟩, ⟨(some 21), none, .load false 1 (t 20)⟩, ⟨(some 22), none, .pcall (k (.fn 56 [] [])) [(t 19), (t 21)]⟩, ⟨(some 4), none, .mv (t 22)⟩])
  .ret)
  .skip))
  (.seq (.reg [⟨(some 23), none, .faddr 1 (t 2)⟩, ⟨(some 24), none, .load false 1 (t 23)⟩, ⟨(some 25), none, .faddr 1 (t 3)⟩, ⟨(some 26), none, .load false 1 (t 25)⟩, ⟨(some 27), none, .pcall (k (.fn 39 [] [])) [(t 24), (t 26)]⟩, ⟨(some 4), none, .mv (t 27)⟩])
  .ret))))
theorem fn33 : Fn Go.Proofs.Try.prog 33 28 [.inl 4] c33 :=
  ⟨⟨_, _, Go.Proofs.Try.func33, rfl, by kernel_rfl, Go.Proofs.Try.ntmps33, by kernel_rfl, ⟨fun f => imp.contains f, false⟩, by kernel_rfl⟩⟩


def c34 : C :=
  (.seq (.reg [⟨(some 2), none, .mv (k (.int .i64 0))⟩])
  (.seq (.reg [⟨(some 3), none, .mv (k (.int .i64 0))⟩])
  (.seq (.seq (.reg [⟨(some 6), none, .mv (t 0)⟩, ⟨(some 7), none, .len (t 6)⟩, ⟨(some 8), none, .mv (k (.int .i64 0))⟩])
  (.block 0
  (.loop
  (.seq (.reg [⟨(some 9), none, .bin .lss (t 8) (t 7)⟩])
  (.seq (.cond (t 9)
  .skip
  (.exit 0))
  (.seq (.block 1
  (.seq (.reg [⟨(some 10), none, .iaddr 1 (t 6) (t 8)⟩, ⟨(some 11), none, .load false 1 (t 10)⟩, ⟨(some 5), none, .mv (t 11)⟩])
  (.seq (.reg [⟨(some 12), none, .mv (t 5)⟩, ⟨(some 13), none, .mv (t 3)⟩, ⟨(some 14), none, .bin .neq (t 12) (t 13)⟩])
  (.cond (t 14)
  (.seq (.reg [⟨(some 15), none, .mv (t 5)⟩, ⟨(some 2), none, .mv (t 15)⟩])
  .ret)
  .skip))))
  (.reg [⟨(some 16), none, .bin .add (t 8) (k (.int .i64 1))⟩, ⟨(some 8), none, .mv (t 16)⟩])))))))
  (.seq (.reg [⟨(some 17), none, .mv (t 3)⟩, ⟨(some 2), none, .mv (t 17)⟩])
  .ret))))
theorem fn34 : Fn Go.Proofs.Try.prog 34 18 [.inl 2] c34 :=
  ⟨⟨_, _, Go.Proofs.Try.func34, rfl, by kernel_rfl, Go.Proofs.Try.ntmps34, by kernel_rfl, ⟨fun f => imp.contains f, false⟩, by kernel_rfl⟩⟩


def c35 : C :=
  (.seq (.reg [⟨(some 4), none, .mv (k (.int .i64 0))⟩])
  (.seq (.reg [⟨(some 7), none, .mv (t 0)⟩, ⟨(some 8), none, .pcall (k (.fn 57 [] [])) [(t 7)]⟩, ⟨(some 5), none, .mv (t 8)⟩])
  (.seq (.reg [⟨(some 9), none, .mv (t 1)⟩, ⟨(some 10), none, .pcall (k (.fn 57 [] [])) [(t 9)]⟩, ⟨(some 6), none, .mv (t 10)⟩])
  (.seq (.seq (.reg [⟨(some 11), none, .mv (t 5)⟩])
  (.cond (t 11)
  (.seq (.seq (.reg [⟨(some 12), none, .mv (t 6)⟩])
  (.cond (t 12)
  (.seq (.reg [⟨(some 4), none, .mv (k (.int .i64 0))⟩])
  .ret)
  .skip))
  (.seq (.reg [⟨(some 4), none, .mv (k (.int .i64 (-1)))⟩])
  .ret))
  .skip))
  (.seq (.seq (.reg [⟨(some 13), none, .mv (t 6)⟩])
  (.cond (t 13)
  (.seq (.reg [⟨(some 4), none, .mv (k (.int .i64 1))⟩])
  .ret)
  .skip))
  (.seq (.seq (.reg [⟨(some 14), none, .mv (t 0)⟩, ⟨(some 15), none, .mv (t 1)⟩, ⟨(some 16), none, .bin .lss (t 14) (t 15)⟩])
  (.cond (t 16)
  (.seq (.reg [⟨(some 4), none, .mv (k (.int .i64 (-1)))⟩])
  .ret)
  .skip))
  (.seq (.seq (.reg [⟨(some 17), none, .mv (t 0)⟩, ⟨(some 18), none, .mv (t 1)⟩, ⟨(some 19), none, .bin .gtr (t 17) (t 18)⟩])
  (.cond (t 19)
  (.seq (.reg [⟨(some 4), none, .mv (k (.int .i64 1))⟩])
  .ret)
  .skip))
  (.seq (.reg [⟨(some 4), none, .mv (k (.int .i64 0))⟩])
  .ret))))))))
theorem fn35 : Fn Go.Proofs.Try.prog 35 20 [.inl 4] c35 :=
  ⟨⟨_, _, Go.Proofs.Try.func35, rfl, by kernel_rfl, Go.Proofs.Try.ntmps35, by kernel_rfl, ⟨fun f => imp.contains f, false⟩, by kernel_rfl⟩⟩


def c36 : C :=
  (.seq (.reg [⟨(some 4), none, .mv (k (.int .i64 0))⟩])
  (.seq (.reg [⟨(some 7), none, .mv (t 0)⟩, ⟨(some 8), none, .pcall (k (.fn 58 [] [])) [(t 7)]⟩, ⟨(some 5), none, .mv (t 8)⟩])
  (.seq (.reg [⟨(some 9), none, .mv (t 1)⟩, ⟨(some 10), none, .pcall (k (.fn 58 [] [])) [(t 9)]⟩, ⟨(some 6), none, .mv (t 10)⟩])
  (.seq (.seq (.reg [⟨(some 11), none, .mv (t 5)⟩])
  (.cond (t 11)
  (.seq (.seq (.reg [⟨(some 12), none, .mv (t 6)⟩])
  (.cond (t 12)
  (.seq (.reg [⟨(some 4), none, .mv (k (.int .i64 0))⟩])
  .ret)
  .skip))
  (.seq (.reg [⟨(some 4), none, .mv (k (.int .i64 (-1)))⟩])
  .ret))
  .skip))
  (.seq (.seq (.reg [⟨(some 13), none, .mv (t 6)⟩])
  (.cond (t 13)
  (.seq (.reg [⟨(some 4), none, .mv (k (.int .i64 1))⟩])
  .ret)
  .skip))
  (.seq (.seq (.reg [⟨(some 14), none, .mv (t 0)⟩, ⟨(some 15), none, .mv (t 1)⟩, ⟨(some 16), none, .bin .lss (t 14) (t 15)⟩])
  (.cond (t 16)
  (.seq (.reg [⟨(some 4), none, .mv (k (.int .i64 (-1)))⟩])
  .ret)
  .skip))
  (.seq (.seq (.reg [⟨(some 17), none, .mv (t 0)⟩, ⟨(some 18), none, .mv (t 1)⟩, ⟨(some 19), none, .bin .gtr (t 17) (t 18)⟩])
  (.cond (t 19)
  (.seq (.reg [⟨(some 4), none, .mv (k (.int .i64 1))⟩])
  .ret)
  .skip))
  (.seq (.reg [⟨(some 4), none, .mv (k (.int .i64 0))⟩])
  .ret))))))))
theorem fn36 : Fn Go.Proofs.Try.prog 36 20 [.inl 4] c36 :=
  ⟨⟨_, _, Go.Proofs.Try.func36, rfl, by kernel_rfl, Go.Proofs.Try.ntmps36, by kernel_rfl, ⟨fun f => imp.contains f, false⟩, by kernel_rfl⟩⟩


def c37 : C :=
  (.seq (.reg [⟨(some 4), none, .mv (k (.int .i64 0))⟩])
  (.seq (.reg [⟨(some 5), none, .mv (t 0)⟩, ⟨(some 6), none, .mv (t 1)⟩, ⟨(some 7), none, .pcall (k (.fn 59 [] [])) [(t 5), (t 6)]⟩, ⟨(some 4), none, .mv (t 7)⟩])
  .ret))
theorem fn37 : Fn Go.Proofs.Try.prog 37 8 [.inl 4] c37 :=
  ⟨⟨_, _, Go.Proofs.Try.func37, rfl, by kernel_rfl, Go.Proofs.Try.ntmps37, by kernel_rfl, ⟨fun f => imp.contains f, false⟩, by kernel_rfl⟩⟩


def c38 : C :=
  (.seq (.reg [⟨(some 6), none, .mv (k (.int .i64 0))⟩])
  (.seq (.seq (.reg [⟨(some 11), none, .mv (t 0)⟩, ⟨(some 12), none, .len (t 11)⟩, ⟨(some 13), none, .mv (k (.int .i64 0))⟩])
  (.block 0
  (.loop
  (.seq (.reg [⟨(some 14), none, .bin .lss (t 13) (t 12)⟩])
  (.seq (.cond (t 14)
  .skip
  (.exit 0))
  (.seq (.block 1
  (.seq (.reg [⟨(some 15), none, .mv (t 13)⟩, ⟨(some 16), none, .iaddr 4 (t 11) (t 13)⟩, ⟨(some 17), none, .load true 4 (t 16)⟩, ⟨(some 8), none, .alloc [(.int .i64 0), (.int .i64 0), (.str []), .nils]⟩, ⟨(some 7), none, .mv (t 15)⟩, ⟨none, none, .store 4 (t 8) (t 17)⟩])
  (.seq (.seq (.reg [⟨(some 18), none, .mv (t 7)⟩, ⟨(some 19), none, .mv (t 1)⟩, ⟨(some 20), none, .len (t 19)⟩, ⟨(some 21), none, .bin .geq (t 18) (t 20)⟩])
  (.cond (t 21)
  (.seq (.reg [⟨(some 6), none, .mv (k (.int .i64 1))⟩])
  .ret)
  .skip))
  (.seq (.reg [⟨(some 22), none, .mv (t 1)⟩, ⟨(some 23), none, .mv (t 7)⟩, ⟨(some 24), none, .iaddr 4 (t 22) (t 23)⟩, ⟨(some 25), none, .load true 4 (t 24)⟩, ⟨(some 9), none, .alloc [(.int .i64 0), (.int .i64 0), (.str []), .nils]⟩, ⟨none, none, .store 4 (t 9) (t 25)⟩])
  (.seq (.reg [⟨(some 26), none, .mv (t 2)⟩, ⟨(some 27), none, .load true 4 (t 8)⟩, ⟨(some 28), none, .load true 4 (t 9)⟩, ⟨(some 29), none, .pcall (t 26) [(t 27), (t 28)]⟩, ⟨(some 10), none, .mv (t 29)⟩])
  (.seq (.reg [⟨(some 30), none, .mv (t 10)⟩, ⟨(some 31), none, .bin .neq (t 30) (k (.int .i64 0))⟩])
  (.cond (t 31)
  (.seq (.reg [⟨(some 32), none, .mv (t 10)⟩, ⟨(some 6), none, .mv (t 32)⟩])
  .ret)
  .skip)))))))
  (.reg [⟨(some 33), none, .bin .add (t 13) (k (.int .i64 1))⟩, ⟨(some 13), none, .mv (t 33)⟩])))))))
  (.seq (.seq (.reg [⟨(some 34), none, .mv (t 0)⟩, ⟨(some 35), none, .len (t 34)⟩, ⟨(some 36), none, .mv (t 1)⟩, ⟨(some 37), none, .len (t 36)⟩, ⟨(some 38), none, .bin .lss (t 35) (t 37)⟩])
  (.cond (t 38)
  (.seq (.reg [⟨(some 6), none, .mv (k (.int .i64 (-1)))⟩])
  .ret)
  .skip))
  (.seq (.reg [⟨(some 6), none, .mv (k (.int .i64 0))⟩])
  .ret))))
theorem fn38 : Fn Go.Proofs.Try.prog 38 39 [.inl 6] c38 :=
  ⟨⟨_, _, Go.Proofs.Try.func38, rfl, by kernel_rfl, Go.Proofs.Try.ntmps38, by kernel_rfl, ⟨fun f => imp.contains f, false⟩, by kernel_rfl⟩⟩


def c39 : C :=
  (.seq (.reg [⟨(some 4), none, .mv (k (.int .i64 0))⟩])
  (.seq (.seq (.reg [⟨(some 5), none, .mv (t 0)⟩, ⟨(some 6), none, .mv (t 1)⟩, ⟨(some 7), none, .bin .lss (t 5) (t 6)⟩])
  (.cond (t 7)
  (.seq (.reg [⟨(some 4), none, .mv (k (.int .i64 (-1)))⟩])
  .ret)
  .skip))
  (.seq (.seq (.reg [⟨(some 8), none, .mv (t 0)⟩, ⟨(some 9), none, .mv (t 1)⟩, ⟨(some 10), none, .bin .gtr (t 8) (t 9)⟩])
  (.cond (t 10)
  (.seq (.reg [⟨(some 4), none, .mv (k (.int .i64 1))⟩])
  .ret)
  .skip))
  (.seq (.reg [⟨(some 4), none, .mv (k (.int .i64 0))⟩])
  .ret))))
theorem fn39 : Fn Go.Proofs.Try.prog 39 11 [.inl 4] c39 :=
  ⟨⟨_, _, Go.Proofs.Try.func39, rfl, by kernel_rfl, Go.Proofs.Try.ntmps39, by kernel_rfl, ⟨fun f => imp.contains f, false⟩, by kernel_rfl⟩⟩


def c40 : C :=
  (.seq (.reg [⟨(some 4), none, .mv (k (.bool false))⟩])
  (.seq (.reg [⟨(some 5), none, .mv (t 0)⟩, ⟨(some 6), none, .mv (t 1)⟩, ⟨(some 7), none, .pcall (k (.fn 60 [] [])) [(t 5), (t 6)]⟩, ⟨(some 8), none, .bin .geq (t 7) (k (.int .i64 0))⟩, ⟨(some 4), none, .mv (t 8)⟩])
  .ret))
theorem fn40 : Fn Go.Proofs.Try.prog 40 9 [.inl 4] c40 :=
  ⟨⟨_, _, Go.Proofs.Try.func40, rfl, by kernel_rfl, Go.Proofs.Try.ntmps40, by kernel_rfl, ⟨fun f => imp.contains f, false⟩, by kernel_rfl⟩⟩


def c41 : C :=
  (.seq (.reg [⟨(some 2), none, .box (t 0)⟩, ⟨(some 3), none, .mv (k (.bool false))⟩])
  (.seq (.reg [⟨(some 4), none, .load true 4 (t 2)⟩, ⟨(some 5), none, .load true 4 (t 1)⟩, ⟨(some 6), none, .pcall (k (.fn 13 [] [])) [(t 4), (t 5)]⟩, ⟨(some 7), none, .bin .eql (t 6) (k (.int .i64 0))⟩, ⟨(some 3), none, .mv (t 7)⟩])
  .ret))
theorem fn41 : Fn Go.Proofs.Try.prog 41 8 [.inl 3] c41 :=
  ⟨⟨_, _, Go.Proofs.Try.func41, rfl, by kernel_rfl, Go.Proofs.Try.ntmps41, by kernel_rfl, ⟨fun f => imp.contains f, false⟩, by kernel_rfl⟩⟩


def c42 : C :=
  (.seq (.reg [⟨(some 4), none, .mv (k (.bool false))⟩])
  (.seq (.reg [⟨(some 5), none, .mv (t 0)⟩, ⟨(some 6), none, .mv (t 1)⟩, ⟨(some 7), none, .pcall (k (.fn 61 [] [])) [(t 5), (t 6)]⟩, ⟨(some 8), none, .bin .geq (t 7) (k (.int .i64 0))⟩, ⟨(some 4), none, .mv (t 8)⟩])
  .ret))
theorem fn42 : Fn Go.Proofs.Try.prog 42 9 [.inl 4] c42 :=
  ⟨⟨_, _, Go.Proofs.Try.func42, rfl, by kernel_rfl, Go.Proofs.Try.ntmps42, by kernel_rfl, ⟨fun f => imp.contains f, false⟩, by kernel_rfl⟩⟩


def c56 : C :=
  (.seq (.reg [⟨(some 4), none, .mv (k (.int .i64 0))⟩])
  (.seq (.seq (.reg [⟨(some 5), none, .mv (k (.int .i64 0))⟩])
  (.block 0
  (.loop
  (.seq (.seq (.reg [⟨(some 6), none, .mv (t 5)⟩, ⟨(some 7), none, .mv (t 0)⟩, ⟨(some 8), none, .lens (t 7)⟩, ⟨(some 9), none, .bin .lss (t 6) (t 8)⟩, ⟨(some 10), none, .mv (t 9)⟩, ⟨(some 11), (some (10, true)), .mv (t 5)⟩, ⟨(some 12), (some (10, true)), .mv (t 1)⟩, ⟨(some 13), (some (10, true)), .lens (t 12)⟩, ⟨(some 14), (some (10, true)), .bin .lss (t 11) (t 13)⟩, ⟨(some 15), none, .pick (t 10) (t 14) (k (.bool false))⟩])
  (.cond (t 15)
  .skip
  (.exit 0)))
  (.seq (.block 1
  (.seq (.seq (.draw 0 [(⟨(some 18), none, .mv (t 0)⟩, []), (⟨(some 19), none, .mv (t 5)⟩, []), (⟨(some 20), none, .idxs (t 18) (t 19)⟩, []), (⟨(some 21), none, .mv (t 1)⟩, []), (⟨(some 22), none, .mv (t 5)⟩, []), (⟨(some 23), none, .idxs (t 21) (t 22)⟩, []), (⟨(some 24), none, .bin .lss (t 20) (t 23)⟩, [])])
  (.cond (t 24)
  (.seq (.reg [⟨(some 4), none, .mv (k (.int .i64 (-1)))⟩])
  .ret)
  .skip))
  (.seq (.draw 0 [(⟨(some 25), none, .mv (t 0)⟩, []), (⟨(some 26), none, .mv (t 5)⟩, []), (⟨(some 27), none, .idxs (t 25) (t 26)⟩, []), (⟨(some 28), none, .mv (t 1)⟩, []), (⟨(some 29), none, .mv (t 5)⟩, []), (⟨(some 30), none, .idxs (t 28) (t 29)⟩, []), (⟨(some 31), none, .bin .gtr (t 27) (t 30)⟩, [])])
  (.cond (t 31)
  (.seq (.reg [⟨(some 4), none, .mv (k (.int .i64 1))⟩])
  .ret)
  .skip))))
  (.reg [⟨(some 16), none, .mv (t 5)⟩, ⟨(some 17), none, .bin .add (t 16) (k (.int .i64 1))⟩, ⟨(some 5), none, .mv (t 17)⟩]))))))
  (.seq (.seq (.reg [⟨(some 32), none, .mv (t 0)⟩, ⟨(some 33), none, .lens (t 32)⟩, ⟨(some 34), none, .mv (t 1)⟩, ⟨(some 35), none, .lens (t 34)⟩, ⟨(some 36), none, .bin .lss (t 33) (t 35)⟩])
  (.cond (t 36)
  (.seq (.reg [⟨(some 4), none, .mv (k (.int .i64 (-1)))⟩])
  .ret)
  .skip))
  (.seq (.seq (.reg [⟨(some 37), none, .mv (t 0)⟩, ⟨(some 38), none, .lens (t 37)⟩, ⟨(some 39), none, .mv (t 1)⟩, ⟨(some 40), none, .lens (t 39)⟩, ⟨(some 41), none, .bin .gtr (t 38) (t 40)⟩])
  (.cond (t 41)
  (.seq (.reg [⟨(some 4), none, .mv (k (.int .i64 1))⟩])
  .ret)
  .skip))
  (.seq (.reg [⟨(some 4), none, .mv (k (.int .i64 0))⟩])
  .ret)))))
theorem fn56 : Fn Go.Proofs.Try.prog 56 42 [.inl 4] c56 :=
  ⟨⟨_, _, Go.Proofs.Try.func56, rfl, by kernel_rfl, Go.Proofs.Try.ntmps56, by kernel_rfl, ⟨fun f => imp.contains f, false⟩, by kernel_rfl⟩⟩


def c57 : C :=
  (.seq (.reg [⟨(some 2), none, .mv (k (.bool false))⟩])
  (.seq (.reg [⟨(some 3), none, .mv (t 0)⟩, ⟨(some 4), none, .mv (t 0)⟩, ⟨(some 5), none, .bin .neq (t 3) (t 4)⟩, ⟨(some 2), none, .mv (t 5)⟩])
  .ret))
theorem fn57 : Fn Go.Proofs.Try.prog 57 6 [.inl 2] c57 :=
  ⟨⟨_, _, Go.Proofs.Try.func57, rfl, by kernel_rfl, Go.Proofs.Try.ntmps57, by kernel_rfl, ⟨fun f => imp.contains f, false⟩, by kernel_rfl⟩⟩


def c58 : C :=
  (.seq (.reg [⟨(some 2), none, .mv (k (.bool false))⟩])
  (.seq (.reg [⟨(some 3), none, .mv (t 0)⟩, ⟨(some 4), none, .mv (t 0)⟩, ⟨(some 5), none, .bin .neq (t 3) (t 4)⟩, ⟨(some 2), none, .mv (t 5)⟩])
  .ret))
theorem fn58 : Fn Go.Proofs.Try.prog 58 6 [.inl 2] c58 :=
  ⟨⟨_, _, Go.Proofs.Try.func58, rfl, by kernel_rfl, Go.Proofs.Try.ntmps58, by kernel_rfl, ⟨fun f => imp.contains f, false⟩, by kernel_rfl⟩⟩


def c59 : C :=
  (.seq (.reg [⟨(some 4), none, .mv (k (.int .i64 0))⟩])
  (.seq (.reg [⟨(some 5), none, .mv (t 0)⟩, ⟨(some 6), none, .mv (t 1)⟩, ⟨(some 7), none, .pcall (k (.fn 66 [] [])) [(t 5), (t 6)]⟩, ⟨(some 4), none, .mv (t 7)⟩])
  .ret))
theorem fn59 : Fn Go.Proofs.Try.prog 59 8 [.inl 4] c59 :=
  ⟨⟨_, _, Go.Proofs.Try.func59, rfl, by kernel_rfl, Go.Proofs.Try.ntmps59, by kernel_rfl, ⟨fun f => imp.contains f, false⟩, by kernel_rfl⟩⟩


def c60 : C :=
  (.seq (.reg [⟨(some 4), none, .mv (k (.int .i64 0))⟩])
  (.seq (.seq (.reg [⟨(some 6), none, .mv (t 0)⟩, ⟨(some 7), none, .len (t 6)⟩, ⟨(some 8), none, .mv (k (.int .i64 0))⟩])
  (.block 0
  (.loop
  (.seq (.reg [⟨(some 9), none, .bin .lss (t 8) (t 7)⟩])
  (.seq (.cond (t 9)
  .skip
  (.exit 0))
  (.seq (.block 1
  (.seq (.reg [⟨(some 10), none, .mv (t 8)⟩, ⟨(some 5), none, .mv (t 10)⟩])
  (.seq (.reg [⟨(some 11), none, .mv (t 1)⟩, ⟨(some 12), none, .mv (t 0)⟩, ⟨(some 13), none, .mv (t 5)⟩, ⟨(some 14), none, .iaddr 4 (t 12) (t 13)⟩, ⟨(some 15), none, .load true 4 (t 14)⟩, ⟨(some 16), none, .pcall (t 11) [(t 15)]⟩])
  (.cond (t 16)
  (.seq (.reg [⟨(some 17), none, .mv (t 5)⟩, ⟨(some 4), none, .mv (t 17)⟩])
  .ret)
  .skip))))
  (.reg [⟨(some 18), none, .bin .add (t 8) (k (.int .i64 1))⟩, ⟨(some 8), none, .mv (t 18)⟩])))))))
  (.seq (.reg [⟨(some 4), none, .mv (k (.int .i64 (-1)))⟩])
  .ret)))
theorem fn60 : Fn Go.Proofs.Try.prog 60 19 [.inl 4] c60 :=
  ⟨⟨_, _, Go.Proofs.Try.func60, rfl, by kernel_rfl, Go.Proofs.Try.ntmps60, by kernel_rfl, ⟨fun f => imp.contains f, false⟩, by kernel_rfl⟩⟩


def c61 : C :=
  (.seq (.reg [⟨(some 4), none, .mv (k (.int .i64 0))⟩])
  (.seq (.seq (.reg [⟨(some 6), none, .mv (t 0)⟩, ⟨(some 7), none, .len (t 6)⟩, ⟨(some 8), none, .mv (k (.int .i64 0))⟩])
  (.block 0
  (.loop
  (.seq (.reg [⟨(some 9), none, .bin .lss (t 8) (t 7)⟩])
  (.seq (.cond (t 9)
  .skip
  (.exit 0))
  (.seq (.block 1
  (.seq (.reg [⟨(some 10), none, .mv (t 8)⟩, ⟨(some 5), none, .mv (t 10)⟩])
  (.seq (.reg [⟨(some 11), none, .mv (t 1)⟩, ⟨(some 12), none, .mv (t 0)⟩, ⟨(some 13), none, .mv (t 5)⟩, ⟨(some 14), none, .iaddr 1 (t 12) (t 13)⟩, ⟨(some 15), none, .load false 1 (t 14)⟩, ⟨(some 16), none, .bin .eql (t 11) (t 15)⟩])
  (.cond (t 16)
  (.seq (.reg [⟨(some 17), none, .mv (t 5)⟩, ⟨(some 4), none, .mv (t 17)⟩])
  .ret)
  .skip))))
  (.reg [⟨(some 18), none, .bin .add (t 8) (k (.int .i64 1))⟩, ⟨(some 8), none, .mv (t 18)⟩])))))))
  (.seq (.reg [⟨(some 4), none, .mv (k (.int .i64 (-1)))⟩])
  .ret)))
theorem fn61 : Fn Go.Proofs.Try.prog 61 19 [.inl 4] c61 :=
  ⟨⟨_, _, Go.Proofs.Try.func61, rfl, by kernel_rfl, Go.Proofs.Try.ntmps61, by kernel_rfl, ⟨fun f => imp.contains f, false⟩, by kernel_rfl⟩⟩

end GP
