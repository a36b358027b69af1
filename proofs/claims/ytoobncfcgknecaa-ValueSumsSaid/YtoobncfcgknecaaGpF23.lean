import Derived.Test.YtoobncfcgknecaaGpF22
namespace GP
open Go Go.Proofs
open Rd O
set_option maxRecDepth 100000
def c15 : C :=
  (.seq (.reg [⟨(some 2), none, .box (t 0)⟩, ⟨(some 3), none, .box (t 1)⟩, ⟨(some 4), none, .mv (k (.bool false))⟩])
  (.seq (.seq (.reg [⟨(some 8), none, .faddr 0 (t 2)⟩, ⟨(some 9), none, .load false 1 (t 8)⟩, ⟨(some 10), none, .faddr 0 (t 3)⟩, ⟨(some 11), none, .load false 1 (t 10)⟩, ⟨(some 12), none, .bin .neq (t 9) (t 11)⟩, ⟨(some 13), none, .mv (t 12)⟩, ⟨(some 14), (some (13, false)), .faddr 1 (t 2)⟩, ⟨(some 15), (some (13, false)), .load false 1 (t 14)⟩, ⟨(some 16), (some (13, false)), .faddr 1 (t 3)⟩, ⟨(some 17), (some (13, false)), .load false 1 (t 16)⟩, ⟨(some 18), (some (13, false)), .bin .neq (t 15) (t 17)⟩, ⟨(some 19), none, .pick (t 13) (k (.bool true)) (t 18)⟩, ⟨(some 20), none, .mv (t 19)⟩, ⟨(some 21), (some (20, false)), .faddr 2 (t 2)⟩, ⟨(some 22), (some (20, false)), .load false 1 (t 21)⟩, ⟨(some 23), (some (20, false)), .faddr 2 (t 3)⟩, ⟨(some 24), (some (20, false)), .load false 1 (t 23)⟩, ⟨(some 25), (some (20, false)), .bin .neq (t 22) (t 24)⟩, ⟨(some 26), none, .pick (t 20) (k (.bool true)) (t 25)⟩, ⟨(some 27), none, .mv (t 26)⟩, ⟨(some 28), (some (27, false)), .faddr 3 (t 2)⟩, ⟨(some 29), (some (27, false)), .load false 1 (t 28)⟩, ⟨(some 30), (some (27, false)), .len (t 29)⟩, ⟨(some 31), (some (27, false)), .faddr 3 (t 3)⟩, ⟨(some 32), (some (27, false)), .load false 1 (t 31)⟩, ⟨(some 33), (some (27, false)), .len (t 32)⟩, ⟨(some 34), (some (27, false)), .bin .neq (t 30) (t 33)⟩, ⟨(some 35), none, .pick (t 27) (k (.bool true)) (t 34)⟩])
  (.cond (t 35)
  (.seq (.reg [⟨(some 4), none, .mv (k (.bool false))⟩])
  .ret)
  .skip))
  (.seq (.seq (.reg [⟨(some 5), none, .mv (k (.int .i64 0))⟩])
  (.block 0
  (.loop
  (.seq (.seq (.reg [⟨(some 36), none, .mv (t 5)⟩, ⟨(some 37), none, .faddr 3 (t 2)⟩, ⟨(some 38), none, .load false 1 (t 37)⟩, ⟨(some 39), none, .len (t 38)⟩, ⟨(some 40), none, .bin .lss (t 36) (t 39)⟩])
  (.cond (t 40)
  .skip
  (.exit 0)))
  (.seq (.block 1
  (.seq (.draw 2 [(⟨(some 43), none, .faddr 3 (t 2)⟩, []), (⟨(some 44), none, .load false 1 (t 43)⟩, []), (⟨(some 45), none, .mv (t 5)⟩, []), (⟨(some 46), none, .iaddr 4 (t 44) (t 45)⟩, []), (⟨(some 47), none, .load true 4 (t 46)⟩, []), (⟨(some 48), none, .faddr 3 (t 3)⟩, []), (⟨(some 49), none, .load false 1 (t 48)⟩, []), (⟨(some 50), none, .mv (t 5)⟩, []), (⟨(some 51), none, .iaddr 4 (t 49) (t 50)⟩, []), (⟨(some 52), none, .load true 4 (t 51)⟩, []), (⟨(some 6), none, .rawAt 2 [(.int .i64 0), (.int .i64 0), (.str []), .nils]⟩, []), (⟨(some 7), none, .rawAt 1 [(.int .i64 0), (.int .i64 0), (.str []), .nils]⟩, []), (⟨none, none, .fillAt 2 4 (t 6) (t 47)⟩, []), (⟨none, none, .fillAt 1 4 (t 7) (t 52)⟩, [])])
  (.seq (.reg [⟨(some 53), none, .faddr 0 (t 6)⟩, ⟨(some 54), none, .load false 1 (t 53)⟩, ⟨(some 55), none, .faddr 0 (t 7)⟩, ⟨(some 56), none, .load false 1 (t 55)⟩, ⟨(some 57), none, .bin .neq (t 54) (t 56)⟩, ⟨(some 58), none, .mv (t 57)⟩, ⟨(some 59), (some (58, false)), .faddr 1 (t 6)⟩, ⟨(some 60), (some (58, false)), .load false 1 (t 59)⟩, ⟨(some 61), (some (58, false)), .faddr 1 (t 7)⟩, ⟨(some 62), (some (58, false)), .load false 1 (t 61)⟩, ⟨(some 63), (some (58, false)), .bin .neq (t 60) (t 62)⟩, ⟨(some 64), none, .pick (t 58) (k (.bool true)) (t 63)⟩, ⟨(some 65), none, .mv (t 64)⟩, ⟨(some 66), (some (65, false)), .faddr 2 (t 6)⟩, ⟨(some 67), (some (65, false)), .load false 1 (t 66)⟩, ⟨(some 68), (some (65, false)), .faddr 2 (t 7)⟩, ⟨(some 69), (some (65, false)), .load false 1 (t 68)⟩, ⟨(some 70), (some (65, false)), .bin .neq (t 67) (t 69)⟩, ⟨(some 71), none, .pick (t 65) (k (.bool true)) (t 70)⟩, ⟨(some 72), none, .mv (t 71)⟩, ⟨(some 73), (some (72, false)), .faddr 3 (t 6)⟩, ⟨(some 74), (some (72, false)), .load false 1 (t 73)⟩, ⟨(some 75), (some (72, false)), .len (t 74)⟩, ⟨(some 76), (some (72, false)), .bin .gtr (t 75) (k (.int .i64 0))⟩, ⟨(some 77), none, .pick (t 72) (k (.bool true)) (t 76)⟩, ⟨(some 78), none, .mv (t 77)⟩, ⟨(some 79), (some (78, false)), .faddr 3 (t 7)⟩, ⟨(some 80), (some (78, false)), .load false 1 (t 79)⟩, ⟨(some 81), (some (78, false)), .len (t 80)⟩, ⟨(some 82), (some (78, false)), .bin .gtr (t 81) (k (.int .i64 0))⟩, ⟨(some 83), none, .pick (t 78) (k (.bool true)) (t 82)⟩])
  (.cond (t 83)
  (.seq (.reg [⟨(some 4), none, .mv (k (.bool false))⟩])
  .ret)
  .skip))))
  (.reg [⟨(some 41), none, .mv (t 5)⟩, ⟨(some 42), none, .bin .add (t 41) (k (.int .i64 1))⟩, ⟨(some 5), none, .mv (t 42)⟩]))))))
  (.seq (.reg [⟨(some 4), none, .mv (k (.bool true))⟩])
  .ret))))
theorem fn15 : Fn Go.Proofs.Try.prog 15 84 [.inl 4] c15 :=
  ⟨⟨_, _, Go.Proofs.Try.func15, rfl, by kernel_rfl, Go.Proofs.Try.ntmps15, by kernel_rfl, ⟨fun f => imp.contains f, false⟩, by kernel_rfl⟩⟩

def c3 : C :=
  (.seq (.reg [⟨(some 3), none, .box (t 0)⟩, ⟨(some 4), none, .box (t 1)⟩, ⟨(some 5), none, .box (t 2)⟩, ⟨(some 6), none, .mv (k (.bool false))⟩])
  (.seq (.seq (.reg [⟨(some 10), none, .pcall (k (.fn 9 [] [])) []⟩, ⟨(some 11), none, .un .not (t 10)⟩, ⟨(some 12), none, .mv (t 11)⟩, ⟨(some 13), (some (12, false)), .load true 4 (t 3)⟩, ⟨(some 14), (some (12, false)), .load true 4 (t 4)⟩, ⟨(some 15), (some (12, false)), .pcall (k (.fn 10 [] [])) [(t 13), (t 14)]⟩, ⟨(some 16), (some (12, false)), .un .not (t 15)⟩, ⟨(some 17), none, .pick (t 12) (k (.bool true)) (t 16)⟩, ⟨(some 18), none, .mv (t 17)⟩, ⟨(some 19), (some (18, false)), .load true 4 (t 5)⟩, ⟨(some 20), (some (18, false)), .load true 4 (t 5)⟩, ⟨(some 21), (some (18, false)), .pcall (k (.fn 10 [] [])) [(t 19), (t 20)]⟩, ⟨(some 22), (some (18, false)), .un .not (t 21)⟩, ⟨(some 23), none, .pick (t 18) (k (.bool true)) (t 22)⟩])
  (.cond (t 23)
  (.seq (.reg [⟨(some 24), none, .pcall (k (.fn 9 [] [])) []⟩, ⟨(some 6), none, .mv (t 24)⟩])
  .ret)
  .skip))
  (.seq (.seq (.draw 0 [(⟨(some 25), none, .load true 4 (t 3)⟩, []), (⟨(some 26), none, .pcall (k (.fn 11 [] [])) [(t 25)]⟩, []), (⟨(some 27), none, .load true 4 (t 3)⟩, []), (⟨(some 28), none, .pcall (k (.fn 12 [] [])) [(t 27)]⟩, []), (⟨(some 29), none, .eq1 .bool true (t 26) (t 28)⟩, [])])
  (.cond (t 29)
  (.seq (.reg [⟨(some 6), none, .mv (k (.bool false))⟩])
  .ret)
  .skip))
  (.seq (.seq (.reg [⟨(some 30), none, .load true 4 (t 3)⟩, ⟨(some 31), none, .pcall (k (.fn 12 [] [])) [(t 30)]⟩, ⟨(some 32), none, .un .not (t 31)⟩, ⟨(some 33), none, .mv (t 32)⟩, ⟨(some 34), (some (33, false)), .load true 4 (t 4)⟩, ⟨(some 35), (some (33, false)), .pcall (k (.fn 12 [] [])) [(t 34)]⟩, ⟨(some 36), (some (33, false)), .un .not (t 35)⟩, ⟨(some 37), none, .pick (t 33) (k (.bool true)) (t 36)⟩, ⟨(some 38), none, .mv (t 37)⟩, ⟨(some 39), (some (38, false)), .load true 4 (t 5)⟩, ⟨(some 40), (some (38, false)), .pcall (k (.fn 12 [] [])) [(t 39)]⟩, ⟨(some 41), (some (38, false)), .un .not (t 40)⟩, ⟨(some 42), none, .pick (t 38) (k (.bool true)) (t 41)⟩])
  (.cond (t 42)
  (.seq (.reg [⟨(some 6), none, .mv (k (.bool true))⟩])
  .ret)
  .skip))
  (.seq (.draw 0 [(⟨(some 43), none, .load true 4 (t 3)⟩, []), (⟨(some 44), none, .load true 4 (t 4)⟩, []), (⟨(some 45), none, .pcall (k (.fn 13 [] [])) [(t 43), (t 44)]⟩, []), (⟨(some 46), none, .load true 4 (t 4)⟩, []), (⟨(some 47), none, .load true 4 (t 5)⟩, []), (⟨(some 48), none, .pcall (k (.fn 13 [] [])) [(t 46), (t 47)]⟩, []), (⟨(some 49), none, .load true 4 (t 3)⟩, []), (⟨(some 50), none, .load true 4 (t 5)⟩, []), (⟨(some 51), none, .pcall (k (.fn 13 [] [])) [(t 49), (t 50)]⟩, []), (⟨(some 7), none, .mv (t 45)⟩, []), (⟨(some 8), none, .mv (t 48)⟩, []), (⟨(some 9), none, .mv (t 51)⟩, [])])
  (.seq (.seq (.reg [⟨(some 52), none, .mv (t 7)⟩, ⟨(some 53), none, .load true 4 (t 3)⟩, ⟨(some 54), none, .load true 4 (t 4)⟩, ⟨(some 55), none, .pcall (k (.fn 14 [] [])) [(t 53), (t 54)]⟩, ⟨(some 56), none, .bin .neq (t 52) (t 55)⟩, ⟨(some 57), none, .mv (t 56)⟩, ⟨(some 58), (some (57, false)), .load true 4 (t 4)⟩, ⟨(some 59), (some (57, false)), .load true 4 (t 3)⟩, ⟨(some 60), (some (57, false)), .pcall (k (.fn 13 [] [])) [(t 58), (t 59)]⟩, ⟨(some 61), (some (57, false)), .mv (t 7)⟩, ⟨(some 62), (some (57, false)), .un .neg (t 61)⟩, ⟨(some 63), (some (57, false)), .bin .neq (t 60) (t 62)⟩, ⟨(some 64), none, .pick (t 57) (k (.bool true)) (t 63)⟩, ⟨(some 65), none, .mv (t 64)⟩, ⟨(some 66), (some (65, false)), .mv (t 7)⟩, ⟨(some 67), (some (65, false)), .bin .eql (t 66) (k (.int .i64 0))⟩, ⟨(some 68), (some (65, false)), .load true 4 (t 3)⟩, ⟨(some 69), (some (65, false)), .load true 4 (t 4)⟩, ⟨(some 70), (some (65, false)), .pcall (k (.fn 15 [] [])) [(t 68), (t 69)]⟩, ⟨(some 71), (some (65, false)), .eq1 .bool true (t 67) (t 70)⟩, ⟨(some 72), none, .pick (t 65) (k (.bool true)) (t 71)⟩])
  (.cond (t 72)
  (.seq (.reg [⟨(some 6), none, .mv (k (.bool false))⟩])
  .ret)
  .skip))
  (.seq (.reg [⟨(some 73), none, .mv (t 7)⟩, ⟨(some 74), none, .bin .leq (t 73) (k (.int .i64 0))⟩, ⟨(some 75), none, .mv (t 74)⟩, ⟨(some 76), (some (75, true)), .mv (t 8)⟩, ⟨(some 77), (some (75, true)), .bin .leq (t 76) (k (.int .i64 0))⟩, ⟨(some 78), none, .pick (t 75) (t 77) (k (.bool false))⟩, ⟨(some 79), none, .un .not (t 78)⟩, ⟨(some 80), none, .mv (t 79)⟩, ⟨(some 81), (some (80, false)), .mv (t 9)⟩, ⟨(some 82), (some (80, false)), .bin .leq (t 81) (k (.int .i64 0))⟩, ⟨(some 83), none, .pick (t 80) (k (.bool true)) (t 82)⟩, ⟨(some 6), none, .mv (t 83)⟩])
  .ret)))))))
theorem fn3 : Fn Go.Proofs.Try.prog 3 84 [.inl 6] c3 :=
  ⟨⟨_, _, Go.Proofs.Try.func3, rfl, by kernel_rfl, Go.Proofs.Try.ntmps3, by kernel_rfl, ⟨fun f => imp.contains f, false⟩, by kernel_rfl⟩⟩

def c7 : C :=
  (.seq (.reg [⟨(some 2), none, .box (t 0)⟩, ⟨(some 3), none, .box (t 1)⟩, ⟨(some 4), none, .mv (k (.bool false))⟩])
  (.seq (.seq (.reg [⟨(some 17), none, .pcall (k (.fn 9 [] [])) []⟩, ⟨(some 18), none, .un .not (t 17)⟩, ⟨(some 19), none, .mv (t 18)⟩, ⟨(some 20), (some (19, false)), .load true 4 (t 2)⟩, ⟨(some 21), (some (19, false)), .load true 4 (t 3)⟩, ⟨(some 22), (some (19, false)), .pcall (k (.fn 10 [] [])) [(t 20), (t 21)]⟩, ⟨(some 23), (some (19, false)), .un .not (t 22)⟩, ⟨(some 24), none, .pick (t 19) (k (.bool true)) (t 23)⟩])
  (.cond (t 24)
  (.seq (.reg [⟨(some 25), none, .pcall (k (.fn 9 [] [])) []⟩, ⟨(some 4), none, .mv (t 25)⟩])
  .ret)
  .skip))
  (.seq (.reg [⟨(some 27), none, .load true 4 (t 2)⟩, ⟨(some 28), none, .load true 4 (t 3)⟩, ⟨(some 29), none, .pcall (k (.fn 22 [] [])) [(t 27), (t 28)]⟩, ⟨(some 26), none, .mv (t 29)⟩, ⟨(some 30), none, .ext 0 (t 26)⟩, ⟨(some 31), none, .ext 1 (t 26)⟩, ⟨(some 5), none, .alloc [(.int .i64 0), (.int .i64 0), (.str []), .nils]⟩, ⟨none, none, .store 4 (t 5) (t 30)⟩, ⟨(some 6), none, .mv (t 31)⟩])
  (.seq (.reg [⟨(some 33), none, .load true 4 (t 2)⟩, ⟨(some 34), none, .load true 4 (t 3)⟩, ⟨(some 35), none, .pcall (k (.fn 23 [] [])) [(t 33), (t 34)]⟩, ⟨(some 32), none, .mv (t 35)⟩, ⟨(some 36), none, .ext 0 (t 32)⟩, ⟨(some 37), none, .ext 1 (t 32)⟩, ⟨(some 7), none, .alloc [(.int .i64 0), (.int .i64 0), (.str []), .nils]⟩, ⟨none, none, .store 4 (t 7) (t 36)⟩, ⟨(some 8), none, .mv (t 37)⟩])
  (.seq (.reg [⟨(some 39), none, .load true 4 (t 2)⟩, ⟨(some 40), none, .load true 4 (t 3)⟩, ⟨(some 41), none, .pcall (k (.fn 24 [] [])) [(t 39), (t 40)]⟩, ⟨(some 38), none, .mv (t 41)⟩, ⟨(some 42), none, .ext 0 (t 38)⟩, ⟨(some 43), none, .ext 1 (t 38)⟩, ⟨(some 9), none, .alloc [(.int .i64 0), (.int .i64 0), (.str []), .nils]⟩, ⟨none, none, .store 4 (t 9) (t 42)⟩, ⟨(some 10), none, .mv (t 43)⟩])
  (.seq (.seq (.reg [⟨(some 44), none, .load true 4 (t 2)⟩, ⟨(some 45), none, .pcall (k (.fn 12 [] [])) [(t 44)]⟩, ⟨(some 46), none, .un .not (t 45)⟩, ⟨(some 47), none, .mv (t 46)⟩, ⟨(some 48), (some (47, false)), .load true 4 (t 3)⟩, ⟨(some 49), (some (47, false)), .pcall (k (.fn 12 [] [])) [(t 48)]⟩, ⟨(some 50), (some (47, false)), .un .not (t 49)⟩, ⟨(some 51), none, .pick (t 47) (k (.bool true)) (t 50)⟩])
  (.cond (t 51)
  (.seq (.reg [⟨(some 52), none, .mv (t 6)⟩, ⟨(some 53), none, .bin .eql (t 52) (k (.int .i64 1))⟩, ⟨(some 54), none, .mv (t 53)⟩, ⟨(some 55), (some (54, true)), .mv (t 8)⟩, ⟨(some 56), (some (54, true)), .bin .eql (t 55) (k (.int .i64 1))⟩, ⟨(some 57), none, .pick (t 54) (t 56) (k (.bool false))⟩, ⟨(some 58), none, .mv (t 57)⟩, ⟨(some 59), (some (58, true)), .mv (t 10)⟩, ⟨(some 60), (some (58, true)), .bin .eql (t 59) (k (.int .i64 1))⟩, ⟨(some 61), none, .pick (t 58) (t 60) (k (.bool false))⟩, ⟨(some 4), none, .mv (t 61)⟩])
  .ret)
  .skip))
  (.seq (.reg [⟨(some 63), none, .load true 4 (t 2)⟩, ⟨(some 64), none, .load true 4 (t 3)⟩, ⟨(some 65), none, .pcall (k (.fn 25 [] [])) [(t 63), (t 64), (k (.bool false))]⟩, ⟨(some 62), none, .mv (t 65)⟩, ⟨(some 66), none, .ext 0 (t 62)⟩, ⟨(some 67), none, .ext 1 (t 62)⟩, ⟨(some 11), none, .alloc [(.int .i64 0), (.int .i64 0), (.str []), .nils]⟩, ⟨none, none, .store 4 (t 11) (t 66)⟩, ⟨(some 12), none, .mv (t 67)⟩])
  (.seq (.reg [⟨(some 69), none, .load true 4 (t 2)⟩, ⟨(some 70), none, .load true 4 (t 3)⟩, ⟨(some 71), none, .pcall (k (.fn 25 [] [])) [(t 69), (t 70), (k (.bool true))]⟩, ⟨(some 68), none, .mv (t 71)⟩, ⟨(some 72), none, .ext 0 (t 68)⟩, ⟨(some 73), none, .ext 1 (t 68)⟩, ⟨(some 13), none, .alloc [(.int .i64 0), (.int .i64 0), (.str []), .nils]⟩, ⟨none, none, .store 4 (t 13) (t 72)⟩, ⟨(some 14), none, .mv (t 73)⟩])
  (.seq (.seq (.reg [⟨(some 74), none, .mv (t 6)⟩, ⟨(some 75), none, .mv (t 12)⟩, ⟨(some 76), none, .bin .neq (t 74) (t 75)⟩, ⟨(some 77), none, .mv (t 76)⟩, ⟨(some 78), (some (77, false)), .mv (t 8)⟩, ⟨(some 79), (some (77, false)), .mv (t 14)⟩, ⟨(some 80), (some (77, false)), .bin .neq (t 78) (t 79)⟩, ⟨(some 81), none, .pick (t 77) (k (.bool true)) (t 80)⟩, ⟨(some 82), none, .mv (t 81)⟩, ⟨(some 83), (some (82, false)), .load true 4 (t 5)⟩, ⟨(some 84), (some (82, false)), .load true 4 (t 11)⟩, ⟨(some 85), (some (82, false)), .pcall (k (.fn 15 [] [])) [(t 83), (t 84)]⟩, ⟨(some 86), (some (82, false)), .un .not (t 85)⟩, ⟨(some 87), none, .pick (t 82) (k (.bool true)) (t 86)⟩, ⟨(some 88), none, .mv (t 87)⟩, ⟨(some 89), (some (88, false)), .load true 4 (t 7)⟩, ⟨(some 90), (some (88, false)), .load true 4 (t 13)⟩, ⟨(some 91), (some (88, false)), .pcall (k (.fn 15 [] [])) [(t 89), (t 90)]⟩, ⟨(some 92), (some (88, false)), .un .not (t 91)⟩, ⟨(some 93), none, .pick (t 88) (k (.bool true)) (t 92)⟩])
  (.cond (t 93)
  (.seq (.reg [⟨(some 4), none, .mv (k (.bool false))⟩])
  .ret)
  .skip))
  (.seq (.seq (.reg [⟨(some 94), none, .faddr 0 (t 2)⟩, ⟨(some 95), none, .load false 1 (t 94)⟩, ⟨(some 96), none, .bin .neq (t 95) (k (.int .i64 2))⟩, ⟨(some 97), none, .mv (t 96)⟩, ⟨(some 98), (some (97, false)), .faddr 0 (t 3)⟩, ⟨(some 99), (some (97, false)), .load false 1 (t 98)⟩, ⟨(some 100), (some (97, false)), .bin .neq (t 99) (k (.int .i64 2))⟩, ⟨(some 101), none, .pick (t 97) (k (.bool true)) (t 100)⟩])
  (.cond (t 101)
  (.seq (.reg [⟨(some 102), none, .mv (t 10)⟩, ⟨(some 103), none, .bin .eql (t 102) (k (.int .i64 6))⟩, ⟨(some 104), none, .mv (t 103)⟩, ⟨(some 105), (some (104, true)), .load true 4 (t 9)⟩, ⟨(some 106), (some (104, true)), .build [(.int .i64 0), (.int .i64 0), (.str []), .nils] []⟩, ⟨(some 107), (some (104, true)), .pcall (k (.fn 15 [] [])) [(t 105), (t 106)]⟩, ⟨(some 108), none, .pick (t 104) (t 107) (k (.bool false))⟩, ⟨(some 4), none, .mv (t 108)⟩])
  .ret)
  .skip))
  (.seq (.reg [⟨(some 110), none, .faddr 1 (t 2)⟩, ⟨(some 111), none, .load false 1 (t 110)⟩, ⟨(some 112), none, .faddr 1 (t 3)⟩, ⟨(some 113), none, .load false 1 (t 112)⟩, ⟨(some 114), none, .pcall (k (.fn 26 [] [])) [(t 111), (t 113)]⟩, ⟨(some 115), none, .pcall (k (.fn 27 [] [])) [(t 114)]⟩, ⟨(some 109), none, .mv (t 115)⟩, ⟨(some 116), none, .ext 0 (t 109)⟩, ⟨(some 117), none, .ext 1 (t 109)⟩, ⟨(some 15), none, .mv (t 116)⟩, ⟨(some 16), none, .mv (t 117)⟩])
  (.seq (.reg [⟨(some 118), none, .mv (t 16)⟩, ⟨(some 119), none, .mv (t 118)⟩, ⟨(some 120), (some (119, true)), .mv (t 10)⟩, ⟨(some 121), (some (119, true)), .bin .eql (t 120) (k (.int .i64 0))⟩, ⟨(some 122), none, .pick (t 119) (t 121) (k (.bool false))⟩, ⟨(some 123), none, .mv (t 122)⟩, ⟨(some 124), (some (123, true)), .load true 4 (t 9)⟩, ⟨(some 125), (some (123, true)), .mv (t 15)⟩, ⟨(some 126), (some (123, true)), .build [(.int .i64 0), (.int .i64 0), (.str []), .nils] [(0, 1, (k (.int .i64 2))), (1, 1, (t 125))]⟩, ⟨(some 127), (some (123, true)), .pcall (k (.fn 15 [] [])) [(t 124), (t 126)]⟩, ⟨(some 128), none, .pick (t 123) (t 127) (k (.bool false))⟩, ⟨(some 129), none, .mv (t 128)⟩, ⟨(some 130), (some (129, false)), .mv (t 16)⟩, ⟨(some 131), (some (129, false)), .un .not (t 130)⟩, ⟨(some 132), (some (129, false)), .mv (t 131)⟩, ⟨(some 133), (some (132, true)), .mv (t 10)⟩, ⟨(some 134), (some (132, true)), .bin .eql (t 133) (k (.int .i64 7))⟩, ⟨(some 135), (some (129, false)), .pick (t 132) (t 134) (k (.bool false))⟩, ⟨(some 136), (some (129, false)), .mv (t 135)⟩, ⟨(some 137), (some (136, true)), .load true 4 (t 9)⟩, ⟨(some 138), (some (136, true)), .build [(.int .i64 0), (.int .i64 0), (.str []), .nils] []⟩, ⟨(some 139), (some (136, true)), .pcall (k (.fn 15 [] [])) [(t 137), (t 138)]⟩, ⟨(some 140), (some (129, false)), .pick (t 136) (t 139) (k (.bool false))⟩, ⟨(some 141), none, .pick (t 129) (k (.bool true)) (t 140)⟩, ⟨(some 4), none, .mv (t 141)⟩])
  .ret))))))))))))
theorem fn7 : Fn Go.Proofs.Try.prog 7 142 [.inl 4] c7 :=
  ⟨⟨_, _, Go.Proofs.Try.func7, rfl, by kernel_rfl, Go.Proofs.Try.ntmps7, by kernel_rfl, ⟨fun f => imp.contains f, false⟩, by kernel_rfl⟩⟩

end GP
