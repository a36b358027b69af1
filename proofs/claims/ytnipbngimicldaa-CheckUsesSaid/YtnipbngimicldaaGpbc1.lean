import Derived.Test.YtnipbngimicldaaGpYe
import Derived.Test.YtnipbngimicldaaGpbi
import Derived.Test.YtnipbngimicldaaProg
namespace GP
open Go Go.Proofs
open Rd O
set_option maxRecDepth 100000
def c4 : C :=
  (.seq (.reg [⟨(some 4), none, .box (t 1)⟩, ⟨(some 5), none, .box (t 2)⟩, ⟨(some 6), none, .mv (k (.bool false))⟩])
  (.seq (.seq (.reg [⟨(some 13), none, .pcall (k (.fn 11 [] [])) []⟩, ⟨(some 14), none, .un .not (t 13)⟩, ⟨(some 15), none, .mv (t 14)⟩, ⟨(some 16), (some (15, false)), .mv (t 0)⟩, ⟨(some 17), (some (15, false)), .len (t 16)⟩, ⟨(some 18), (some (15, false)), .bin .gtr (t 17) (k (.int .i64 12))⟩, ⟨(some 19), none, .pick (t 15) (k (.bool true)) (t 18)⟩, ⟨(some 20), none, .mv (t 19)⟩, ⟨(some 21), (some (20, false)), .load true 8 (t 4)⟩, ⟨(some 22), (some (20, false)), .pcall (k (.fn 12 [] [])) [(t 21)]⟩, ⟨(some 23), (some (20, false)), .un .not (t 22)⟩, ⟨(some 24), none, .pick (t 20) (k (.bool true)) (t 23)⟩, ⟨(some 25), none, .mv (t 24)⟩, ⟨(some 26), (some (25, false)), .load true 3 (t 5)⟩, ⟨(some 27), (some (25, false)), .pcall (k (.fn 13 [] [])) [(t 26)]⟩, ⟨(some 28), (some (25, false)), .un .not (t 27)⟩, ⟨(some 29), none, .pick (t 25) (k (.bool true)) (t 28)⟩])
  (.cond (t 29)
  (.seq (.reg [⟨(some 30), none, .pcall (k (.fn 11 [] [])) []⟩, ⟨(some 6), none, .mv (t 30)⟩])
  .ret)
  .skip))
  (.seq (.reg [⟨(some 31), none, .mv (t 0)⟩, ⟨(some 32), none, .pcall (k (.fn 14 [] [])) [(t 31)]⟩, ⟨(some 7), none, .mv (t 32)⟩])
  (.seq (.reg [⟨(some 34), none, .mv (t 7)⟩, ⟨(some 35), none, .load true 8 (t 4)⟩, ⟨(some 36), none, .pcall (k (.fn 15 [] [])) [(t 34), (t 35)]⟩, ⟨(some 33), none, .mv (t 36)⟩, ⟨(some 37), none, .ext 0 (t 33)⟩, ⟨(some 38), none, .ext 1 (t 33)⟩, ⟨(some 8), none, .mv (t 37)⟩, ⟨(some 9), none, .mv (t 38)⟩])
  (.seq (.seq (.reg [⟨(some 39), none, .mv (t 9)⟩, ⟨(some 40), none, .bin .neq (t 39) (k (.int .i64 0))⟩, ⟨(some 41), none, .mv (t 40)⟩, ⟨(some 42), (some (41, false)), .mv (t 7)⟩, ⟨(some 43), (some (41, false)), .load true 3 (t 5)⟩, ⟨(some 44), (some (41, false)), .pcall (k (.fn 16 [] [])) [(t 42), (t 43)]⟩, ⟨(some 45), (some (41, false)), .un .not (t 44)⟩, ⟨(some 46), none, .pick (t 41) (k (.bool true)) (t 45)⟩])
  (.cond (t 46)
  (.seq (.reg [⟨(some 6), none, .mv (k (.bool true))⟩])
  .ret)
  .skip))
  (.seq (.reg [⟨(some 48), none, .load true 8 (t 4)⟩, ⟨(some 49), none, .load true 3 (t 5)⟩, ⟨(some 50), none, .pcall (k (.fn 17 [] [])) [(t 48), (t 49)]⟩, ⟨(some 47), none, .mv (t 50)⟩, ⟨(some 51), none, .ext 0 (t 47)⟩, ⟨(some 52), none, .ext 1 (t 47)⟩, ⟨(some 10), none, .alloc [(.int .i64 0), (.int .i64 0), (.str []), .nils]⟩, ⟨none, none, .store 4 (t 10) (t 51)⟩, ⟨(some 11), none, .mv (t 52)⟩])
  (.seq (.seq (.reg [⟨(some 53), none, .mv (t 11)⟩, ⟨(some 54), none, .bin .neq (t 53) (k (.int .i64 0))⟩])
  (.cond (t 54)
  (.seq (.reg [⟨(some 55), none, .mv (t 11)⟩, ⟨(some 56), none, .bin .eql (t 55) (k (.int .i64 8))⟩, ⟨(some 57), none, .mv (t 56)⟩, ⟨(some 58), (some (57, false)), .mv (t 11)⟩, ⟨(some 59), (some (57, false)), .bin .eql (t 58) (k (.int .i64 7))⟩, ⟨(some 60), none, .pick (t 57) (k (.bool true)) (t 59)⟩, ⟨(some 6), none, .mv (t 60)⟩])
  .ret)
  .skip))
  (.seq (.reg [⟨(some 61), none, .faddr 0 (t 10)⟩, ⟨(some 62), none, .load false 1 (t 61)⟩, ⟨(some 12), none, .mv (t 62)⟩])
  (.seq (.seq (.reg [⟨(some 63), none, .mv (t 12)⟩, ⟨(some 64), none, .bin .eql (t 63) (k (.int .i64 5))⟩, ⟨(some 65), none, .mv (t 64)⟩, ⟨(some 66), (some (65, true)), .faddr 3 (t 10)⟩, ⟨(some 67), (some (65, true)), .load false 1 (t 66)⟩, ⟨(some 68), (some (65, true)), .len (t 67)⟩, ⟨(some 69), (some (65, true)), .bin .gtr (t 68) (k (.int .i64 0))⟩, ⟨(some 70), none, .pick (t 65) (t 69) (k (.bool false))⟩])
  (.cond (t 70)
  (.reg [⟨(some 71), none, .faddr 3 (t 10)⟩, ⟨(some 72), none, .load false 1 (t 71)⟩, ⟨(some 73), none, .iaddr 4 (t 72) (k (.int .i64 0))⟩, ⟨(some 74), none, .faddr 0 (t 73)⟩, ⟨(some 75), none, .load false 1 (t 74)⟩, ⟨(some 76), none, .bin .add (k (.int .i64 10)) (t 75)⟩, ⟨(some 12), none, .mv (t 76)⟩])
  .skip))
  (.seq (.reg [⟨(some 77), none, .load true 4 (t 10)⟩, ⟨(some 78), none, .pcall (k (.fn 18 [] [])) [(t 77)]⟩, ⟨(some 79), none, .mv (t 78)⟩, ⟨(some 80), (some (79, true)), .mv (t 12)⟩, ⟨(some 81), (some (79, true)), .mv (t 8)⟩, ⟨(some 82), (some (79, true)), .bin .eql (t 80) (t 81)⟩, ⟨(some 83), (some (79, true)), .mv (t 82)⟩, ⟨(some 84), (some (83, false)), .mv (t 12)⟩, ⟨(some 85), (some (83, false)), .bin .eql (t 84) (k (.int .i64 5))⟩, ⟨(some 86), (some (83, false)), .mv (t 85)⟩, ⟨(some 87), (some (86, true)), .mv (t 8)⟩, ⟨(some 88), (some (86, true)), .bin .gtr (t 87) (k (.int .i64 10))⟩, ⟨(some 89), (some (83, false)), .pick (t 86) (t 88) (k (.bool false))⟩, ⟨(some 90), (some (79, true)), .pick (t 83) (k (.bool true)) (t 89)⟩, ⟨(some 91), none, .pick (t 79) (t 90) (k (.bool false))⟩, ⟨(some 6), none, .mv (t 91)⟩])
  .ret))))))))))
theorem fn4 : Fn Go.Proofs.Try.prog 4 92 [.inl 6] c4 :=
  ⟨⟨_, _, Go.Proofs.Try.func4, rfl, by kernel_rfl, Go.Proofs.Try.ntmps4, by kernel_rfl, ⟨fun f => imp.contains f, false⟩, by kernel_rfl⟩⟩

def c40 : C :=
  (.seq (.reg [⟨(some 1), none, .box (t 0)⟩, ⟨(some 2), none, .mv (k (.bool false))⟩])
  (.seq (.seq (.reg [⟨(some 5), none, .faddr 0 (t 1)⟩, ⟨(some 6), none, .load false 1 (t 5)⟩, ⟨(some 7), none, .bin .neq (t 6) (k (.int .i64 5))⟩])
  (.cond (t 7)
  (.seq (.reg [⟨(some 8), none, .load true 4 (t 1)⟩, ⟨(some 9), none, .pcall (k (.fn 58 [] [])) [(t 8)]⟩, ⟨(some 2), none, .mv (t 9)⟩])
  .ret)
  .skip))
  (.seq (.seq (.reg [⟨(some 10), none, .faddr 3 (t 1)⟩, ⟨(some 11), none, .load false 1 (t 10)⟩, ⟨(some 12), none, .len (t 11)⟩, ⟨(some 13), none, .mv (k (.int .i64 0))⟩])
  (.block 0
  (.loop
  (.seq (.reg [⟨(some 14), none, .bin .lss (t 13) (t 12)⟩])
  (.seq (.cond (t 14)
  .skip
  (.exit 0))
  (.seq (.block 1
  (.seq (.reg [⟨(some 15), none, .mv (t 13)⟩, ⟨(some 16), none, .iaddr 4 (t 11) (t 13)⟩, ⟨(some 17), none, .load true 4 (t 16)⟩, ⟨(some 4), none, .alloc [(.int .i64 0), (.int .i64 0), (.str []), .nils]⟩, ⟨(some 3), none, .mv (t 15)⟩, ⟨none, none, .store 4 (t 4) (t 17)⟩])
  (.seq (.draw 0 [(⟨(some 18), none, .load true 4 (t 4)⟩, []), (⟨(some 19), none, .pcall (k (.fn 58 [] [])) [(t 18)]⟩, []), (⟨(some 20), none, .un .not (t 19)⟩, []), (⟨(some 21), none, .mv (t 20)⟩, []), (⟨(some 22), (some (21, false)), .faddr 0 (t 4)⟩, []), (⟨(some 23), (some (21, false)), .load false 1 (t 22)⟩, []), (⟨(some 24), (some (21, false)), .bin .eql (t 23) (k (.int .i64 0))⟩, []), (⟨(some 25), none, .pick (t 21) (k (.bool true)) (t 24)⟩, []), (⟨(some 26), none, .mv (t 25)⟩, []), (⟨(some 27), (some (26, false)), .faddr 0 (t 4)⟩, []), (⟨(some 28), (some (26, false)), .load false 1 (t 27)⟩, []), (⟨(some 29), (some (26, false)), .faddr 3 (t 1)⟩, []), (⟨(some 30), (some (26, false)), .load false 1 (t 29)⟩, []), (⟨(some 31), (some (26, false)), .iaddr 4 (t 30) (k (.int .i64 0))⟩, []), (⟨(some 32), (some (26, false)), .faddr 0 (t 31)⟩, []), (⟨(some 33), (some (26, false)), .load false 1 (t 32)⟩, []), (⟨(some 34), (some (26, false)), .bin .neq (t 28) (t 33)⟩, []), (⟨(some 35), none, .pick (t 26) (k (.bool true)) (t 34)⟩, []), (⟨(some 36), none, .mv (t 35)⟩, []), (⟨(some 37), (some (36, false)), .mv (t 3)⟩, []), (⟨(some 38), (some (36, false)), .bin .gtr (t 37) (k (.int .i64 0))⟩, []), (⟨(some 39), (some (36, false)), .mv (t 38)⟩, []), (⟨(some 40), (some (39, true)), .faddr 3 (t 1)⟩, []), (⟨(some 41), (some (39, true)), .load false 1 (t 40)⟩, []), (⟨(some 42), (some (39, true)), .mv (t 3)⟩, []), (⟨(some 43), (some (39, true)), .bin .sub (t 42) (k (.int .i64 1))⟩, []), (⟨(some 44), (some (39, true)), .iaddr 4 (t 41) (t 43)⟩, []), (⟨(some 45), (some (39, true)), .load true 4 (t 44)⟩, []), (⟨(some 46), (some (39, true)), .load true 4 (t 4)⟩, []), (⟨(some 47), (some (39, true)), .pcall (k (.fn 59 [] [])) [(t 45), (t 46)]⟩, []), (⟨(some 48), (some (39, true)), .bin .geq (t 47) (k (.int .i64 0))⟩, []), (⟨(some 49), (some (36, false)), .pick (t 39) (t 48) (k (.bool false))⟩, []), (⟨(some 50), none, .pick (t 36) (k (.bool true)) (t 49)⟩, [])])
  (.cond (t 50)
  (.seq (.reg [⟨(some 2), none, .mv (k (.bool false))⟩])
  .ret)
  .skip))))
  (.reg [⟨(some 51), none, .bin .add (t 13) (k (.int .i64 1))⟩, ⟨(some 13), none, .mv (t 51)⟩])))))))
  (.seq (.reg [⟨(some 52), none, .faddr 1 (t 1)⟩, ⟨(some 53), none, .load false 1 (t 52)⟩, ⟨(some 54), none, .bin .eql (t 53) (k (.int .i64 0))⟩, ⟨(some 55), none, .mv (t 54)⟩, ⟨(some 56), (some (55, true)), .faddr 2 (t 1)⟩, ⟨(some 57), (some (55, true)), .load false 1 (t 56)⟩, ⟨(some 58), (some (55, true)), .bin .eql (t 57) (k (.str []))⟩, ⟨(some 59), none, .pick (t 55) (t 58) (k (.bool false))⟩, ⟨(some 60), none, .mv (t 59)⟩, ⟨(some 61), (some (60, true)), .faddr 3 (t 1)⟩, ⟨(some 62), (some (60, true)), .load false 1 (t 61)⟩, ⟨(some 63), (some (60, true)), .len (t 62)⟩, ⟨(some 64), (some (60, true)), .bin .leq (t 63) (k (.int .i64 16))⟩, ⟨(some 65), none, .pick (t 60) (t 64) (k (.bool false))⟩, ⟨(some 2), none, .mv (t 65)⟩])
  .ret))))
theorem fn40 : Fn Go.Proofs.Try.prog 40 66 [.inl 2] c40 :=
  ⟨⟨_, _, Go.Proofs.Try.func40, rfl, by kernel_rfl, Go.Proofs.Try.ntmps40, by kernel_rfl, ⟨fun f => imp.contains f, false⟩, by kernel_rfl⟩⟩

def c45 : C :=
  (.seq (.reg [⟨(some 4), none, .box (t 1)⟩, ⟨(some 5), none, .box (t 2)⟩, ⟨(some 6), none, .alloc [(.int .i64 0), (.int .i64 0), (.str []), .nils]⟩, ⟨(some 7), none, .mv (k (.int .i64 0))⟩])
  (.seq (.reg [⟨(some 14), none, .build [(.int .i64 0), (.int .i64 0), (.str []), .nils] []⟩, ⟨(some 8), none, .alloc [(.int .i64 0), (.int .i64 0), (.str []), .nils]⟩, ⟨none, none, .store 4 (t 8) (t 14)⟩])
  (.seq (.seq (.reg [⟨(some 15), none, .mv (t 0)⟩, ⟨(some 16), none, .bin .eql (t 15) (k (.str [43]))⟩, ⟨(some 17), none, .mv (t 16)⟩, ⟨(some 18), (some (17, false)), .mv (t 0)⟩, ⟨(some 19), (some (17, false)), .bin .eql (t 18) (k (.str [45]))⟩, ⟨(some 20), none, .pick (t 17) (k (.bool true)) (t 19)⟩])
  (.cond (t 20)
  (.seq (.reg [⟨(some 21), none, .load true 4 (t 4)⟩, ⟨(some 22), none, .load true 4 (t 5)⟩, ⟨(some 23), none, .mv (t 0)⟩, ⟨(some 24), none, .bin .eql (t 23) (k (.str [45]))⟩, ⟨(some 25), none, .pcall (k (.fn 44 [] [])) [(t 21), (t 22), (t 24)]⟩, ⟨(some 26), none, .ext 0 (t 25)⟩, ⟨(some 27), none, .ext 1 (t 25)⟩, ⟨none, none, .store 4 (t 6) (t 26)⟩, ⟨(some 7), none, .mv (t 27)⟩])
  .ret)
  .skip))
  (.seq (.seq (.reg [⟨(some 28), none, .mv (t 0)⟩, ⟨(some 29), none, .bin .eql (t 28) (k (.str [42]))⟩])
  (.cond (t 29)
  (.seq (.seq (.reg [⟨(some 30), none, .faddr 0 (t 4)⟩, ⟨(some 31), none, .load false 1 (t 30)⟩, ⟨(some 32), none, .bin .neq (t 31) (k (.int .i64 2))⟩, ⟨(some 33), none, .mv (t 32)⟩, ⟨(some 34), (some (33, false)), .faddr 0 (t 5)⟩, ⟨(some 35), (some (33, false)), .load false 1 (t 34)⟩, ⟨(some 36), (some (33, false)), .bin .neq (t 35) (k (.int .i64 2))⟩, ⟨(some 37), none, .pick (t 33) (k (.bool true)) (t 36)⟩])
  (.cond (t 37)
  (.seq (.reg [⟨(some 38), none, .load true 4 (t 8)⟩, ⟨none, none, .store 4 (t 6) (t 38)⟩, ⟨(some 7), none, .mv (k (.int .i64 6))⟩])
  .ret)
  .skip))
  (.seq (.reg [⟨(some 40), none, .faddr 1 (t 4)⟩, ⟨(some 41), none, .load false 1 (t 40)⟩, ⟨(some 42), none, .faddr 1 (t 5)⟩, ⟨(some 43), none, .load false 1 (t 42)⟩, ⟨(some 44), none, .pcall (k (.fn 64 [] [])) [(t 41), (t 43)]⟩, ⟨(some 45), none, .pcall (k (.fn 63 [] [])) [(t 44)]⟩, ⟨(some 39), none, .mv (t 45)⟩, ⟨(some 46), none, .ext 0 (t 39)⟩, ⟨(some 47), none, .ext 1 (t 39)⟩, ⟨(some 9), none, .mv (t 46)⟩, ⟨(some 10), none, .mv (t 47)⟩])
  (.seq (.seq (.reg [⟨(some 48), none, .mv (t 10)⟩, ⟨(some 49), none, .un .not (t 48)⟩])
  (.cond (t 49)
  (.seq (.reg [⟨(some 50), none, .load true 4 (t 8)⟩, ⟨none, none, .store 4 (t 6) (t 50)⟩, ⟨(some 7), none, .mv (k (.int .i64 7))⟩])
  .ret)
  .skip))
  (.seq (.reg [⟨(some 51), none, .mv (t 9)⟩, ⟨(some 52), none, .build [(.int .i64 0), (.int .i64 0), (.str []), .nils] [(0, 1, (k (.int .i64 2))), (1, 1, (t 51))]⟩, ⟨none, none, .store 4 (t 6) (t 52)⟩, ⟨(some 7), none, .mv (k (.int .i64 0))⟩])
  .ret))))
  .skip))
  (.seq (.seq (.reg [⟨(some 53), none, .mv (t 0)⟩, ⟨(some 54), none, .bin .eql (t 53) (k (.str [105, 110]))⟩])
  (.cond (t 54)
  (.seq (.seq (.draw 0 [(⟨(some 55), none, .faddr 0 (t 5)⟩, []), (⟨(some 56), none, .load false 1 (t 55)⟩, []), (⟨(some 57), none, .bin .neq (t 56) (k (.int .i64 5))⟩, []), (⟨(some 58), none, .mv (t 57)⟩, []), (⟨(some 59), (some (58, false)), .faddr 0 (t 4)⟩, []), (⟨(some 60), (some (58, false)), .load false 1 (t 59)⟩, []), (⟨(some 61), (some (58, false)), .bin .eql (t 60) (k (.int .i64 5))⟩, []), (⟨(some 62), none, .pick (t 58) (k (.bool true)) (t 61)⟩, []), (⟨(some 63), none, .mv (t 62)⟩, []), (⟨(some 64), (some (63, false)), .faddr 3 (t 5)⟩, []), (⟨(some 65), (some (63, false)), .load false 1 (t 64)⟩, []), (⟨(some 66), (some (63, false)), .len (t 65)⟩, []), (⟨(some 67), (some (63, false)), .bin .gtr (t 66) (k (.int .i64 0))⟩, []), (⟨(some 68), (some (63, false)), .mv (t 67)⟩, []), (⟨(some 69), (some (68, true)), .faddr 3 (t 5)⟩, []), (⟨(some 70), (some (68, true)), .load false 1 (t 69)⟩, []), (⟨(some 71), (some (68, true)), .iaddr 4 (t 70) (k (.int .i64 0))⟩, []), (⟨(some 72), (some (68, true)), .faddr 0 (t 71)⟩, []), (⟨(some 73), (some (68, true)), .load false 1 (t 72)⟩, []), (⟨(some 74), (some (68, true)), .faddr 0 (t 4)⟩, []), (⟨(some 75), (some (68, true)), .load false 1 (t 74)⟩, []), (⟨(some 76), (some (68, true)), .bin .neq (t 73) (t 75)⟩, []), (⟨(some 77), (some (63, false)), .pick (t 68) (t 76) (k (.bool false))⟩, []), (⟨(some 78), none, .pick (t 63) (k (.bool true)) (t 77)⟩, [])])
  (.cond (t 78)
  (.seq (.reg [⟨(some 79), none, .load true 4 (t 8)⟩, ⟨none, none, .store 4 (t 6) (t 79)⟩, ⟨(some 7), none, .mv (k (.int .i64 6))⟩])
  .ret)
  .skip))
  (.seq (.seq (.reg [⟨(some 11), none, .mv (k (.int .i64 0))⟩])
  (.block 0
  (.loop
  (.seq (.seq (.reg [⟨(some 80), none, .mv (t 11)⟩, ⟨(some 81), none, .faddr 3 (t 5)⟩, ⟨(some 82), none, .load false 1 (t 81)⟩, ⟨(some 83), none, .len (t 82)⟩, ⟨(some 84), none, .bin .lss (t 80) (t 83)⟩])
  (.cond (t 84)
  .skip
  (.exit 0)))
  (.seq (.block 1
  (.seq (.draw 0 [(⟨(some 87), none, .faddr 3 (t 5)⟩, []), (⟨(some 88), none, .load false 1 (t 87)⟩, []), (⟨(some 89), none, .mv (t 11)⟩, []), (⟨(some 90), none, .iaddr 4 (t 88) (t 89)⟩, []), (⟨(some 91), none, .load true 4 (t 90)⟩, []), (⟨(some 92), none, .load true 4 (t 4)⟩, []), (⟨(some 93), none, .pcall (k (.fn 65 [] [])) [(t 91), (t 92)]⟩, []), (⟨(some 94), none, .bin .eql (t 93) (k (.int .i64 0))⟩, [])])
  (.cond (t 94)
  (.seq (.reg [⟨(some 95), none, .pcall (k (.fn 43 [] [])) [(k (.bool true))]⟩, ⟨none, none, .store 4 (t 6) (t 95)⟩, ⟨(some 7), none, .mv (k (.int .i64 0))⟩])
  .ret)
  .skip)))
  (.reg [⟨(some 85), none, .mv (t 11)⟩, ⟨(some 86), none, .bin .add (t 85) (k (.int .i64 1))⟩, ⟨(some 11), none, .mv (t 86)⟩]))))))
  (.seq (.reg [⟨(some 96), none, .pcall (k (.fn 43 [] [])) [(k (.bool false))]⟩, ⟨none, none, .store 4 (t 6) (t 96)⟩, ⟨(some 7), none, .mv (k (.int .i64 0))⟩])
  .ret)))
  .skip))
  (.seq (.reg [⟨(some 98), none, .mv (t 0)⟩, ⟨(some 99), none, .load true 4 (t 4)⟩, ⟨(some 100), none, .load true 4 (t 5)⟩, ⟨(some 101), none, .pcall (k (.fn 66 [] [])) [(t 98), (t 99), (t 100)]⟩, ⟨(some 97), none, .mv (t 101)⟩, ⟨(some 102), none, .ext 0 (t 97)⟩, ⟨(some 103), none, .ext 1 (t 97)⟩, ⟨(some 12), none, .mv (t 102)⟩, ⟨(some 13), none, .mv (t 103)⟩])
  (.seq (.seq (.reg [⟨(some 104), none, .mv (t 13)⟩, ⟨(some 105), none, .bin .neq (t 104) (k (.int .i64 0))⟩])
  (.cond (t 105)
  (.seq (.reg [⟨(some 106), none, .load true 4 (t 8)⟩, ⟨(some 107), none, .mv (t 13)⟩, ⟨none, none, .store 4 (t 6) (t 106)⟩, ⟨(some 7), none, .mv (t 107)⟩])
  .ret)
  .skip))
  (.seq (.reg [⟨(some 108), none, .mv (t 12)⟩, ⟨(some 109), none, .pcall (k (.fn 43 [] [])) [(t 108)]⟩, ⟨none, none, .store 4 (t 6) (t 109)⟩, ⟨(some 7), none, .mv (k (.int .i64 0))⟩])
  .ret))))))))
theorem fn45 : Fn Go.Proofs.Try.prog 45 110 [.inr (6, true, 4), .inl 7] c45 :=
  ⟨⟨_, _, Go.Proofs.Try.func45, rfl, by kernel_rfl, Go.Proofs.Try.ntmps45, by kernel_rfl, ⟨fun f => imp.contains f, false⟩, by kernel_rfl⟩⟩

def c46 : C :=
  (.seq (.reg [⟨(some 2), none, .mv (k (.int .i64 0))⟩])
  (.seq (.seq (.reg [⟨(some 3), none, .mv (t 0)⟩])
  (.block 0
  (.seq (.seq (.reg [⟨(some 5), none, .bin .eql (t 3) (k (.str [118, 97, 108, 117, 101]))⟩, ⟨(some 4), none, .mv (t 5)⟩])
  (.cond (t 4)
  .skip
  (.seq (.reg [⟨(some 6), none, .bin .eql (t 3) (k (.str [110, 111, 119]))⟩, ⟨(some 4), none, .mv (t 6)⟩])
  (.cond (t 4)
  .skip
  (.seq (.reg [⟨(some 7), none, .bin .eql (t 3) (k (.str [97, 116, 116, 114]))⟩, ⟨(some 4), none, .mv (t 7)⟩])
  (.cond (t 4)
  .skip
  (.seq (.reg [⟨(some 8), none, .bin .eql (t 3) (k (.str [104, 97, 115]))⟩, ⟨(some 4), none, .mv (t 8)⟩])
  (.cond (t 4)
  .skip
  (.reg [⟨(some 9), none, .bin .eql (t 3) (k (.str [114, 111, 108, 101]))⟩, ⟨(some 4), none, .mv (t 9)⟩])))))))))
  (.cond (t 4)
  (.seq (.reg [⟨(some 2), none, .mv (k (.int .i64 0))⟩])
  .ret)
  (.seq (.seq (.reg [⟨(some 11), none, .bin .eql (t 3) (k (.str [110, 111, 116]))⟩, ⟨(some 10), none, .mv (t 11)⟩])
  (.cond (t 10)
  .skip
  (.seq (.reg [⟨(some 12), none, .bin .eql (t 3) (k (.str [110, 101, 103]))⟩, ⟨(some 10), none, .mv (t 12)⟩])
  (.cond (t 10)
  .skip
  (.reg [⟨(some 13), none, .bin .eql (t 3) (k (.str [115, 105, 122, 101]))⟩, ⟨(some 10), none, .mv (t 13)⟩])))))
  (.cond (t 10)
  (.seq (.reg [⟨(some 2), none, .mv (k (.int .i64 1))⟩])
  .ret)
  (.seq (.seq (.reg [⟨(some 15), none, .bin .eql (t 3) (k (.str [97, 110, 100]))⟩, ⟨(some 14), none, .mv (t 15)⟩])
  (.cond (t 14)
  .skip
  (.seq (.reg [⟨(some 16), none, .bin .eql (t 3) (k (.str [111, 114]))⟩, ⟨(some 14), none, .mv (t 16)⟩])
  (.cond (t 14)
  .skip
  (.seq (.reg [⟨(some 17), none, .bin .eql (t 3) (k (.str [43]))⟩, ⟨(some 14), none, .mv (t 17)⟩])
  (.cond (t 14)
  .skip
  (.seq (.reg [⟨(some 18), none, .bin .eql (t 3) (k (.str [45]))⟩, ⟨(some 14), none, .mv (t 18)⟩])
  (.cond (t 14)
  .skip
  (.seq (.reg [⟨(some 19), none, .bin .eql (t 3) (k (.str [42]))⟩, ⟨(some 14), none, .mv (t 19)⟩])
  (.cond (t 14)
  .skip
  (.seq (.reg [⟨(some 20), none, .bin .eql (t 3) (k (.str [61, 61]))⟩, ⟨(some 14), none, .mv (t 20)⟩])
  (.cond (t 14)
  .skip
  (.seq (.reg [⟨(some 21), none, .bin .eql (t 3) (k (.str [33, 61]))⟩, ⟨(some 14), none, .mv (t 21)⟩])
  (.cond (t 14)
  .skip
  (.seq (.reg [⟨(some 22), none, .bin .eql (t 3) (k (.str [60]))⟩, ⟨(some 14), none, .mv (t 22)⟩])
  (.cond (t 14)
  .skip
  (.seq (.reg [⟨(some 23), none, .bin .eql (t 3) (k (.str [60, 61]))⟩, ⟨(some 14), none, .mv (t 23)⟩])
  (.cond (t 14)
  .skip
  (.seq (.reg [⟨(some 24), none, .bin .eql (t 3) (k (.str [62]))⟩, ⟨(some 14), none, .mv (t 24)⟩])
  (.cond (t 14)
  .skip
  (.seq (.reg [⟨(some 25), none, .bin .eql (t 3) (k (.str [62, 61]))⟩, ⟨(some 14), none, .mv (t 25)⟩])
  (.cond (t 14)
  .skip
  (.reg [⟨(some 26), none, .bin .eql (t 3) (k (.str [105, 110]))⟩, ⟨(some 14), none, .mv (t 26)⟩])))))))))))))))))))))))
  (.cond (t 14)
  (.seq (.reg [⟨(some 2), none, .mv (k (.int .i64 2))⟩])
  .ret)
  .skip))))))))
  (.seq (.reg [⟨(some 2), none, .mv (k (.int .i64 (-1)))⟩])
  .ret)))
theorem fn46 : Fn Go.Proofs.Try.prog 46 27 [.inl 2] c46 :=
  ⟨⟨_, _, Go.Proofs.Try.func46, rfl, by kernel_rfl, Go.Proofs.Try.ntmps46, by kernel_rfl, ⟨fun f => imp.contains f, false⟩, by kernel_rfl⟩⟩

def c47 : C :=
  (.seq (.reg [⟨(some 3), none, .box (t 1)⟩, ⟨(some 4), none, .mv (k (.int .i64 0))⟩, ⟨(some 5), none, .mv (k (.int .i64 0))⟩])
  (.seq (.seq (.reg [⟨(some 8), none, .faddr 0 (t 3)⟩, ⟨(some 9), none, .load false 1 (t 8)⟩])
  (.block 0
  (.seq (.reg [⟨(some 11), none, .bin .eql (t 9) (k (.str [118, 97, 108, 117, 101]))⟩, ⟨(some 10), none, .mv (t 11)⟩])
  (.cond (t 10)
  (.seq (.seq (.reg [⟨(some 12), none, .faddr 1 (t 3)⟩, ⟨(some 13), none, .load true 4 (t 12)⟩, ⟨(some 14), none, .pcall (k (.fn 67 [] [])) [(t 13)]⟩, ⟨(some 6), none, .mv (t 14)⟩])
  (.seq (.reg [⟨(some 15), none, .mv (t 6)⟩, ⟨(some 16), none, .bin .neq (t 15) (k (.int .i64 0))⟩])
  (.cond (t 16)
  (.seq (.reg [⟨(some 17), none, .mv (t 6)⟩, ⟨(some 4), none, .mv (t 17)⟩, ⟨(some 5), none, .mv (k (.int .i64 0))⟩])
  .ret)
  .skip)))
  (.seq (.reg [⟨(some 4), none, .mv (k (.int .i64 0))⟩, ⟨(some 5), none, .mv (k (.int .i64 2))⟩])
  .ret))
  (.seq (.reg [⟨(some 19), none, .bin .eql (t 9) (k (.str [110, 111, 119]))⟩, ⟨(some 18), none, .mv (t 19)⟩])
  (.cond (t 18)
  (.seq (.reg [⟨(some 4), none, .mv (k (.int .i64 4))⟩, ⟨(some 5), none, .mv (k (.int .i64 0))⟩])
  .ret)
  (.seq (.reg [⟨(some 21), none, .bin .eql (t 9) (k (.str [114, 111, 108, 101]))⟩, ⟨(some 20), none, .mv (t 21)⟩])
  (.cond (t 20)
  (.seq (.reg [⟨(some 4), none, .mv (k (.int .i64 1))⟩, ⟨(some 5), none, .mv (k (.int .i64 0))⟩])
  .ret)
  .skip))))))))
  (.seq (.reg [⟨(some 22), none, .mv (t 0)⟩, ⟨(some 23), none, .faddr 5 (t 3)⟩, ⟨(some 24), none, .load false 1 (t 23)⟩, ⟨(some 25), none, .faddr 6 (t 3)⟩, ⟨(some 26), none, .load false 1 (t 25)⟩, ⟨(some 27), none, .pcall (k (.fn 68 [] [])) [(t 22), (t 24), (t 26)]⟩, ⟨(some 7), none, .mv (t 27)⟩])
  (.seq (.seq (.reg [⟨(some 28), none, .mv (t 7)⟩, ⟨(some 29), none, .bin .eql (t 28) (k (.int .i64 0))⟩])
  (.cond (t 29)
  (.seq (.reg [⟨(some 4), none, .mv (k (.int .i64 0))⟩, ⟨(some 5), none, .mv (k (.int .i64 8))⟩])
  .ret)
  .skip))
  (.seq (.seq (.reg [⟨(some 30), none, .faddr 0 (t 3)⟩, ⟨(some 31), none, .load false 1 (t 30)⟩, ⟨(some 32), none, .bin .eql (t 31) (k (.str [104, 97, 115]))⟩])
  (.cond (t 32)
  (.reg [⟨(some 7), none, .mv (k (.int .i64 1))⟩])
  .skip))
  (.seq (.reg [⟨(some 33), none, .mv (t 7)⟩, ⟨(some 4), none, .mv (t 33)⟩, ⟨(some 5), none, .mv (k (.int .i64 0))⟩])
  .ret))))))
theorem fn47 : Fn Go.Proofs.Try.prog 47 34 [.inl 4, .inl 5] c47 :=
  ⟨⟨_, _, Go.Proofs.Try.func47, rfl, by kernel_rfl, Go.Proofs.Try.ntmps47, by kernel_rfl, ⟨fun f => imp.contains f, false⟩, by kernel_rfl⟩⟩

def c50 : C :=
  (.seq (.reg [⟨(some 1), none, .box (t 0)⟩, ⟨(some 2), none, .mv (k (.int .i64 0))⟩])
  (.seq (.seq (.reg [⟨(some 3), none, .faddr 2 (t 1)⟩, ⟨(some 4), none, .load false 1 (t 3)⟩, ⟨(some 5), none, .bin .eql (t 4) (k (.int .i64 0))⟩, ⟨(some 6), none, .mv (t 5)⟩, ⟨(some 7), (some (6, true)), .faddr 3 (t 1)⟩, ⟨(some 8), (some (6, true)), .load false 1 (t 7)⟩, ⟨(some 9), (some (6, true)), .un .not (t 8)⟩, ⟨(some 10), none, .pick (t 6) (t 9) (k (.bool false))⟩])
  (.cond (t 10)
  (.seq (.reg [⟨(some 2), none, .mv (k (.int .i64 8))⟩])
  .ret)
  .skip))
  (.seq (.reg [⟨(some 2), none, .mv (k (.int .i64 0))⟩])
  .ret)))
theorem fn50 : Fn Go.Proofs.Try.prog 50 11 [.inl 2] c50 :=
  ⟨⟨_, _, Go.Proofs.Try.func50, rfl, by kernel_rfl, Go.Proofs.Try.ntmps50, by kernel_rfl, ⟨fun f => imp.contains f, false⟩, by kernel_rfl⟩⟩

def c61 : C :=
  (.seq (.reg [⟨(some 1), none, .box (t 0)⟩, ⟨(some 2), none, .alloc [(.int .i64 0), (.int .u64 0)]⟩])
  (.seq (.reg [⟨(some 3), none, .faddr 0 (t 1)⟩, ⟨(some 4), none, .load false 1 (t 3)⟩, ⟨(some 5), none, .conv .u64 (t 4)⟩, ⟨(some 6), none, .un .xor (t 5)⟩, ⟨(some 7), none, .conv .i64 (t 6)⟩, ⟨(some 8), none, .faddr 1 (t 1)⟩, ⟨(some 9), none, .load false 1 (t 8)⟩, ⟨(some 10), none, .un .xor (t 9)⟩, ⟨(some 11), none, .build [(.int .i64 0), (.int .u64 0)] [(0, 1, (t 7)), (1, 1, (t 10))]⟩, ⟨(some 12), none, .build [(.int .i64 0), (.int .u64 0)] [(1, 1, (k (.int .u64 1)))]⟩, ⟨(some 13), none, .pcall (k (.fn 62 [] [])) [(t 11), (t 12)]⟩, ⟨none, none, .store 2 (t 2) (t 13)⟩])
  .ret))
theorem fn61 : Fn Go.Proofs.Try.prog 61 14 [.inr (2, true, 2)] c61 :=
  ⟨⟨_, _, Go.Proofs.Try.func61, rfl, by kernel_rfl, Go.Proofs.Try.ntmps61, by kernel_rfl, ⟨fun f => imp.contains f, false⟩, by kernel_rfl⟩⟩

def c66 : C :=
  (.seq (.reg [⟨(some 4), none, .box (t 1)⟩, ⟨(some 5), none, .box (t 2)⟩, ⟨(some 6), none, .mv (k (.bool false))⟩, ⟨(some 7), none, .mv (k (.int .i64 0))⟩])
  (.seq (.seq (.reg [⟨(some 9), none, .faddr 0 (t 4)⟩, ⟨(some 10), none, .load false 1 (t 9)⟩, ⟨(some 11), none, .bin .eql (t 10) (k (.int .i64 0))⟩, ⟨(some 12), none, .mv (t 11)⟩, ⟨(some 13), (some (12, false)), .faddr 0 (t 4)⟩, ⟨(some 14), (some (12, false)), .load false 1 (t 13)⟩, ⟨(some 15), (some (12, false)), .faddr 0 (t 5)⟩, ⟨(some 16), (some (12, false)), .load false 1 (t 15)⟩, ⟨(some 17), (some (12, false)), .bin .neq (t 14) (t 16)⟩, ⟨(some 18), none, .pick (t 12) (k (.bool true)) (t 17)⟩])
  (.cond (t 18)
  (.seq (.reg [⟨(some 6), none, .mv (k (.bool false))⟩, ⟨(some 7), none, .mv (k (.int .i64 6))⟩])
  .ret)
  .skip))
  (.seq (.seq (.reg [⟨(some 19), none, .faddr 0 (t 4)⟩, ⟨(some 20), none, .load false 1 (t 19)⟩, ⟨(some 21), none, .bin .eql (t 20) (k (.int .i64 1))⟩, ⟨(some 22), none, .mv (t 21)⟩, ⟨(some 23), (some (22, false)), .faddr 0 (t 4)⟩, ⟨(some 24), (some (22, false)), .load false 1 (t 23)⟩, ⟨(some 25), (some (22, false)), .bin .eql (t 24) (k (.int .i64 5))⟩, ⟨(some 26), none, .pick (t 22) (k (.bool true)) (t 25)⟩, ⟨(some 27), none, .mv (t 26)⟩, ⟨(some 28), (some (27, true)), .mv (t 0)⟩, ⟨(some 29), (some (27, true)), .bin .neq (t 28) (k (.str [61, 61]))⟩, ⟨(some 30), none, .pick (t 27) (t 29) (k (.bool false))⟩, ⟨(some 31), none, .mv (t 30)⟩, ⟨(some 32), (some (31, true)), .mv (t 0)⟩, ⟨(some 33), (some (31, true)), .bin .neq (t 32) (k (.str [33, 61]))⟩, ⟨(some 34), none, .pick (t 31) (t 33) (k (.bool false))⟩])
  (.cond (t 34)
  (.seq (.reg [⟨(some 6), none, .mv (k (.bool false))⟩, ⟨(some 7), none, .mv (k (.int .i64 6))⟩])
  .ret)
  .skip))
  (.seq (.reg [⟨(some 35), none, .load true 4 (t 4)⟩, ⟨(some 36), none, .load true 4 (t 5)⟩, ⟨(some 37), none, .pcall (k (.fn 65 [] [])) [(t 35), (t 36)]⟩, ⟨(some 8), none, .mv (t 37)⟩])
  (.seq (.seq (.reg [⟨(some 38), none, .mv (t 0)⟩])
  (.block 0
  (.seq (.reg [⟨(some 40), none, .bin .eql (t 38) (k (.str [61, 61]))⟩, ⟨(some 39), none, .mv (t 40)⟩])
  (.cond (t 39)
  (.seq (.reg [⟨(some 41), none, .mv (t 8)⟩, ⟨(some 42), none, .bin .eql (t 41) (k (.int .i64 0))⟩, ⟨(some 6), none, .mv (t 42)⟩, ⟨(some 7), none, .mv (k (.int .i64 0))⟩])
  .ret)
  (.seq (.reg [⟨(some 44), none, .bin .eql (t 38) (k (.str [33, 61]))⟩, ⟨(some 43), none, .mv (t 44)⟩])
  (.cond (t 43)
  (.seq (.reg [⟨(some 45), none, .mv (t 8)⟩, ⟨(some 46), none, .bin .neq (t 45) (k (.int .i64 0))⟩, ⟨(some 6), none, .mv (t 46)⟩, ⟨(some 7), none, .mv (k (.int .i64 0))⟩])
  .ret)
  (.seq (.reg [⟨(some 48), none, .bin .eql (t 38) (k (.str [60]))⟩, ⟨(some 47), none, .mv (t 48)⟩])
  (.cond (t 47)
  (.seq (.reg [⟨(some 49), none, .mv (t 8)⟩, ⟨(some 50), none, .bin .eql (t 49) (k (.int .i64 (-1)))⟩, ⟨(some 6), none, .mv (t 50)⟩, ⟨(some 7), none, .mv (k (.int .i64 0))⟩])
  .ret)
  (.seq (.reg [⟨(some 52), none, .bin .eql (t 38) (k (.str [60, 61]))⟩, ⟨(some 51), none, .mv (t 52)⟩])
  (.cond (t 51)
  (.seq (.reg [⟨(some 53), none, .mv (t 8)⟩, ⟨(some 54), none, .bin .neq (t 53) (k (.int .i64 1))⟩, ⟨(some 6), none, .mv (t 54)⟩, ⟨(some 7), none, .mv (k (.int .i64 0))⟩])
  .ret)
  (.seq (.reg [⟨(some 56), none, .bin .eql (t 38) (k (.str [62]))⟩, ⟨(some 55), none, .mv (t 56)⟩])
  (.cond (t 55)
  (.seq (.reg [⟨(some 57), none, .mv (t 8)⟩, ⟨(some 58), none, .bin .eql (t 57) (k (.int .i64 1))⟩, ⟨(some 6), none, .mv (t 58)⟩, ⟨(some 7), none, .mv (k (.int .i64 0))⟩])
  .ret)
  .skip))))))))))))
  (.seq (.reg [⟨(some 59), none, .mv (t 8)⟩, ⟨(some 60), none, .bin .neq (t 59) (k (.int .i64 (-1)))⟩, ⟨(some 6), none, .mv (t 60)⟩, ⟨(some 7), none, .mv (k (.int .i64 0))⟩])
  .ret))))))
theorem fn66 : Fn Go.Proofs.Try.prog 66 61 [.inl 6, .inl 7] c66 :=
  ⟨⟨_, _, Go.Proofs.Try.func66, rfl, by kernel_rfl, Go.Proofs.Try.ntmps66, by kernel_rfl, ⟨fun f => imp.contains f, false⟩, by kernel_rfl⟩⟩

def c68 : C :=
  (.seq (.reg [⟨(some 6), none, .mv (k (.int .i64 0))⟩])
  (.seq (.seq (.reg [⟨(some 9), none, .mv (t 0)⟩, ⟨(some 10), none, .len (t 9)⟩, ⟨(some 11), none, .mv (k (.int .i64 0))⟩])
  (.block 0
  (.loop
  (.seq (.reg [⟨(some 12), none, .bin .lss (t 11) (t 10)⟩])
  (.seq (.cond (t 12)
  .skip
  (.exit 0))
  (.seq (.block 1
  (.seq (.reg [⟨(some 13), none, .iaddr 4 (t 9) (t 11)⟩, ⟨(some 14), none, .load true 4 (t 13)⟩, ⟨(some 8), none, .alloc [(.str []), (.str []), (.int .i64 0), (.bool false)]⟩, ⟨none, none, .store 4 (t 8) (t 14)⟩])
  (.seq (.reg [⟨(some 15), none, .faddr 0 (t 8)⟩, ⟨(some 16), none, .load false 1 (t 15)⟩, ⟨(some 17), none, .mv (t 1)⟩, ⟨(some 18), none, .bin .eql (t 16) (t 17)⟩, ⟨(some 19), none, .mv (t 18)⟩, ⟨(some 20), (some (19, true)), .faddr 1 (t 8)⟩, ⟨(some 21), (some (19, true)), .load false 1 (t 20)⟩, ⟨(some 22), (some (19, true)), .mv (t 2)⟩, ⟨(some 23), (some (19, true)), .bin .eql (t 21) (t 22)⟩, ⟨(some 24), none, .pick (t 19) (t 23) (k (.bool false))⟩])
  (.cond (t 24)
  (.seq (.seq (.reg [⟨(some 25), none, .faddr 3 (t 8)⟩, ⟨(some 26), none, .load false 1 (t 25)⟩])
  (.cond (t 26)
  (.seq (.reg [⟨(some 27), none, .faddr 2 (t 8)⟩, ⟨(some 28), none, .load false 1 (t 27)⟩, ⟨(some 29), none, .bin .add (k (.int .i64 10)) (t 28)⟩, ⟨(some 6), none, .mv (t 29)⟩])
  .ret)
  .skip))
  (.seq (.reg [⟨(some 30), none, .faddr 2 (t 8)⟩, ⟨(some 31), none, .load false 1 (t 30)⟩, ⟨(some 6), none, .mv (t 31)⟩])
  .ret))
  .skip))))
  (.reg [⟨(some 32), none, .bin .add (t 11) (k (.int .i64 1))⟩, ⟨(some 11), none, .mv (t 32)⟩])))))))
  (.seq (.reg [⟨(some 6), none, .mv (k (.int .i64 0))⟩])
  .ret)))
theorem fn68 : Fn Go.Proofs.Try.prog 68 33 [.inl 6] c68 :=
  ⟨⟨_, _, Go.Proofs.Try.func68, rfl, by kernel_rfl, Go.Proofs.Try.ntmps68, by kernel_rfl, ⟨fun f => imp.contains f, false⟩, by kernel_rfl⟩⟩

def c72 : C :=
  (.seq (.reg [⟨(some 2), none, .alloc [(.int .i64 0), (.int .i64 0), (.str []), .nils]⟩])
  (.seq (.seq (.reg [⟨(some 3), none, .mv (t 0)⟩])
  (.cond (t 3)
  (.seq (.reg [⟨(some 4), none, .build [(.int .i64 0), (.int .i64 0), (.str []), .nils] [(0, 1, (k (.int .i64 1))), (1, 1, (k (.int .i64 1)))]⟩, ⟨none, none, .store 4 (t 2) (t 4)⟩])
  .ret)
  .skip))
  (.seq (.reg [⟨(some 5), none, .build [(.int .i64 0), (.int .i64 0), (.str []), .nils] [(0, 1, (k (.int .i64 1)))]⟩, ⟨none, none, .store 4 (t 2) (t 5)⟩])
  .ret)))
theorem fn72 : Fn Go.Proofs.Try.prog 72 6 [.inr (2, true, 4)] c72 :=
  ⟨⟨_, _, Go.Proofs.Try.func72, rfl, by kernel_rfl, Go.Proofs.Try.ntmps72, by kernel_rfl, ⟨fun f => imp.contains f, false⟩, by kernel_rfl⟩⟩

def c77 : C :=
  (.seq (.reg [⟨(some 2), none, .box (t 0)⟩, ⟨(some 3), none, .box (t 1)⟩, ⟨(some 4), none, .alloc [(.int .i64 0), (.int .i64 0), (.str []), .nils]⟩, ⟨(some 5), none, .mv (k (.int .i64 0))⟩])
  (.seq (.seq (.reg [⟨(some 6), none, .load true 4 (t 2)⟩, ⟨(some 7), none, .pcall (k (.fn 40 [] [])) [(t 6)]⟩, ⟨(some 8), none, .un .not (t 7)⟩, ⟨(some 9), none, .mv (t 8)⟩, ⟨(some 10), (some (9, false)), .load true 4 (t 3)⟩, ⟨(some 11), (some (9, false)), .pcall (k (.fn 40 [] [])) [(t 10)]⟩, ⟨(some 12), (some (9, false)), .un .not (t 11)⟩, ⟨(some 13), none, .pick (t 9) (k (.bool true)) (t 12)⟩])
  (.cond (t 13)
  (.seq (.reg [⟨(some 14), none, .build [(.int .i64 0), (.int .i64 0), (.str []), .nils] []⟩, ⟨none, none, .store 4 (t 4) (t 14)⟩, ⟨(some 5), none, .mv (k (.int .i64 1))⟩])
  .ret)
  .skip))
  (.seq (.seq (.reg [⟨(some 15), none, .load true 4 (t 2)⟩, ⟨(some 16), none, .load true 4 (t 3)⟩, ⟨(some 17), none, .pcall (k (.fn 91 [] [])) [(t 15), (t 16)]⟩])
  (.block 0
  (.seq (.reg [⟨(some 19), none, .build [(.int .i64 0), (.int .i64 0)] [(0, 1, (k (.int .i64 2))), (1, 1, (k (.int .i64 2)))]⟩, ⟨(some 20), none, .eqa [.int, .int] false (t 17) (t 19)⟩, ⟨(some 18), none, .mv (t 20)⟩])
  (.cond (t 18)
  (.seq (.reg [⟨(some 21), none, .faddr 1 (t 2)⟩, ⟨(some 22), none, .load false 1 (t 21)⟩, ⟨(some 23), none, .faddr 1 (t 3)⟩, ⟨(some 24), none, .load false 1 (t 23)⟩, ⟨(some 25), none, .pcall (k (.fn 95 [] [])) [(t 22), (t 24)]⟩, ⟨(some 26), none, .ext 0 (t 25)⟩, ⟨(some 27), none, .ext 1 (t 25)⟩, ⟨(some 28), none, .pcall (k (.fn 92 [] [])) [(t 26), (t 27)]⟩, ⟨(some 29), none, .ext 0 (t 28)⟩, ⟨(some 30), none, .ext 1 (t 28)⟩, ⟨none, none, .store 4 (t 4) (t 29)⟩, ⟨(some 5), none, .mv (t 30)⟩])
  .ret)
  (.seq (.reg [⟨(some 32), none, .build [(.int .i64 0), (.int .i64 0)] [(0, 1, (k (.int .i64 4))), (1, 1, (k (.int .i64 2)))]⟩, ⟨(some 33), none, .eqa [.int, .int] false (t 17) (t 32)⟩, ⟨(some 31), none, .mv (t 33)⟩])
  (.cond (t 31)
  (.seq (.reg [⟨(some 34), none, .faddr 1 (t 2)⟩, ⟨(some 35), none, .load false 1 (t 34)⟩, ⟨(some 36), none, .faddr 1 (t 3)⟩, ⟨(some 37), none, .load false 1 (t 36)⟩, ⟨(some 38), none, .pcall (k (.fn 95 [] [])) [(t 35), (t 37)]⟩, ⟨(some 39), none, .ext 0 (t 38)⟩, ⟨(some 40), none, .ext 1 (t 38)⟩, ⟨(some 41), none, .pcall (k (.fn 94 [] [])) [(t 39), (t 40)]⟩, ⟨(some 42), none, .ext 0 (t 41)⟩, ⟨(some 43), none, .ext 1 (t 41)⟩, ⟨none, none, .store 4 (t 4) (t 42)⟩, ⟨(some 5), none, .mv (t 43)⟩])
  .ret)
  .skip))))))
  (.seq (.reg [⟨(some 44), none, .build [(.int .i64 0), (.int .i64 0), (.str []), .nils] []⟩, ⟨none, none, .store 4 (t 4) (t 44)⟩, ⟨(some 5), none, .mv (k (.int .i64 6))⟩])
  .ret))))
theorem fn77 : Fn Go.Proofs.Try.prog 77 45 [.inr (4, true, 4), .inl 5] c77 :=
  ⟨⟨_, _, Go.Proofs.Try.func77, rfl, by kernel_rfl, Go.Proofs.Try.ntmps77, by kernel_rfl, ⟨fun f => imp.contains f, false⟩, by kernel_rfl⟩⟩

def c82 : C :=
  (.seq (.reg [⟨(some 2), none, .mv (k (.int .i64 0))⟩])
  (.seq (.reg [⟨(some 3), none, .mv (k (.int .i64 0))⟩])
  (.seq (.seq (.reg [⟨(some 6), none, .mv (t 0)⟩, ⟨(some 7), none, .len (t 6)⟩, ⟨(some 8), none, .mv (k (.int .i64 0))⟩])
  (.block 0
  (.loop
  (.seq (.reg [⟨(some 9), none, .bin .lss (t 8) (t 7)⟩])
  (.seq (.cond (t 9)
  .skip
  (.exit 0))
  (.seq (.block 1
  (.seq (.reg [⟨(some 10), none, .iaddr 1 (t 6) (t 8)⟩, ⟨(some 11), none, .load false 1 (t 10)⟩, ⟨(some 5), none, .mv (t 11)⟩])
  (.seq (.reg [⟨(some 12), none, .mv (t 5)⟩, ⟨(some 13), none, .mv (t 3)⟩, ⟨(some 14), none, .bin .neq (t 12) (t 13)⟩])
  (.cond (t 14)
  (.seq (.reg [⟨(some 15), none, .mv (t 5)⟩, ⟨(some 2), none, .mv (t 15)⟩])
  .ret)
  .skip))))
  (.reg [⟨(some 16), none, .bin .add (t 8) (k (.int .i64 1))⟩, ⟨(some 8), none, .mv (t 16)⟩])))))))
  (.seq (.reg [⟨(some 17), none, .mv (t 3)⟩, ⟨(some 2), none, .mv (t 17)⟩])
  .ret))))
theorem fn82 : Fn Go.Proofs.Try.prog 82 18 [.inl 2] c82 :=
  ⟨⟨_, _, Go.Proofs.Try.func82, rfl, by kernel_rfl, Go.Proofs.Try.ntmps82, by kernel_rfl, ⟨fun f => imp.contains f, false⟩, by kernel_rfl⟩⟩

def c84 : C :=
  (.seq (.reg [⟨(some 4), none, .mv (k (.int .i64 0))⟩])
  (.seq (.reg [⟨(some 7), none, .mv (t 0)⟩, ⟨(some 8), none, .pcall (k (.fn 100 [] [])) [(t 7)]⟩, ⟨(some 5), none, .mv (t 8)⟩])
  (.seq (.reg [⟨(some 9), none, .mv (t 1)⟩, ⟨(some 10), none, .pcall (k (.fn 100 [] [])) [(t 9)]⟩, ⟨(some 6), none, .mv (t 10)⟩])
  (.seq (.seq (.reg [⟨(some 11), none, .mv (t 5)⟩])
  (.cond (t 11)
  (.seq (.seq (.reg [⟨(some 12), none, .mv (t 6)⟩])
  (.cond (t 12)
  (.seq (.reg [⟨(some 4), none, .mv (k (.int .i64 0))⟩])
  .ret)
  .skip))
  (.seq (.reg [⟨(some 4), none, .mv (k (.int .i64 (-1)))⟩])
  .ret))
  .skip))
  (.seq (.seq (.reg [⟨(some 13), none, .mv (t 6)⟩])
  (.cond (t 13)
  (.seq (.reg [⟨(some 4), none, .mv (k (.int .i64 1))⟩])
  .ret)
  .skip))
  (.seq (.seq (.reg [⟨(some 14), none, .mv (t 0)⟩, ⟨(some 15), none, .mv (t 1)⟩, ⟨(some 16), none, .bin .lss (t 14) (t 15)⟩])
  (.cond (t 16)
  (.seq (.reg [⟨(some 4), none, .mv (k (.int .i64 (-1)))⟩])
  .ret)
  .skip))
  (.seq (.seq (.reg [⟨(some 17), none, .mv (t 0)⟩, ⟨(some 18), none, .mv (t 1)⟩, ⟨(some 19), none, .bin .gtr (t 17) (t 18)⟩])
  (.cond (t 19)
  (.seq (.reg [⟨(some 4), none, .mv (k (.int .i64 1))⟩])
  .ret)
  .skip))
  (.seq (.reg [⟨(some 4), none, .mv (k (.int .i64 0))⟩])
  .ret))))))))
theorem fn84 : Fn Go.Proofs.Try.prog 84 20 [.inl 4] c84 :=
  ⟨⟨_, _, Go.Proofs.Try.func84, rfl, by kernel_rfl, Go.Proofs.Try.ntmps84, by kernel_rfl, ⟨fun f => imp.contains f, false⟩, by kernel_rfl⟩⟩

def c94 : C :=
  (.seq (.reg [⟨(some 4), none, .alloc [(.int .i64 0), (.int .i64 0), (.str []), .nils]⟩, ⟨(some 5), none, .mv (k (.int .i64 0))⟩])
  (.seq (.seq (.reg [⟨(some 6), none, .mv (t 1)⟩, ⟨(some 7), none, .un .not (t 6)⟩, ⟨(some 8), none, .mv (t 7)⟩, ⟨(some 9), (some (8, false)), .mv (t 0)⟩, ⟨(some 10), (some (8, false)), .bin .lss (t 9) (k (.int .i64 0))⟩, ⟨(some 11), none, .pick (t 8) (k (.bool true)) (t 10)⟩, ⟨(some 12), none, .mv (t 11)⟩, ⟨(some 13), (some (12, false)), .mv (t 0)⟩, ⟨(some 14), (some (12, false)), .bin .gtr (t 13) (k (.int .i64 1099511627776))⟩, ⟨(some 15), none, .pick (t 12) (k (.bool true)) (t 14)⟩])
  (.cond (t 15)
  (.seq (.reg [⟨(some 16), none, .build [(.int .i64 0), (.int .i64 0), (.str []), .nils] []⟩, ⟨none, none, .store 4 (t 4) (t 16)⟩, ⟨(some 5), none, .mv (k (.int .i64 7))⟩])
  .ret)
  .skip))
  (.seq (.reg [⟨(some 17), none, .mv (t 0)⟩, ⟨(some 18), none, .build [(.int .i64 0), (.int .i64 0), (.str []), .nils] [(0, 1, (k (.int .i64 4))), (1, 1, (t 17))]⟩, ⟨none, none, .store 4 (t 4) (t 18)⟩, ⟨(some 5), none, .mv (k (.int .i64 0))⟩])
  .ret)))
theorem fn94 : Fn Go.Proofs.Try.prog 94 19 [.inr (4, true, 4), .inl 5] c94 :=
  ⟨⟨_, _, Go.Proofs.Try.func94, rfl, by kernel_rfl, Go.Proofs.Try.ntmps94, by kernel_rfl, ⟨fun f => imp.contains f, false⟩, by kernel_rfl⟩⟩

def c96 : C :=
  (.seq (.reg [⟨(some 4), none, .mv (k (.int .i64 0))⟩, ⟨(some 5), none, .mv (k (.bool false))⟩])
  (.seq (.reg [⟨(some 9), none, .mv (t 0)⟩, ⟨(some 10), none, .pcall (k (.fn 103 [] [])) [(t 9)]⟩, ⟨(some 11), none, .mv (t 1)⟩, ⟨(some 12), none, .pcall (k (.fn 103 [] [])) [(t 11)]⟩, ⟨(some 13), none, .pcall (k (.fn 102 [] [])) [(t 10), (t 12)]⟩, ⟨(some 8), none, .mv (t 13)⟩, ⟨(some 14), none, .ext 0 (t 8)⟩, ⟨(some 15), none, .ext 1 (t 8)⟩, ⟨(some 6), none, .mv (t 14)⟩, ⟨(some 7), none, .mv (t 15)⟩])
  (.seq (.seq (.reg [⟨(some 16), none, .mv (t 0)⟩, ⟨(some 17), none, .bin .lss (t 16) (k (.int .i64 0))⟩, ⟨(some 18), none, .mv (t 1)⟩, ⟨(some 19), none, .bin .lss (t 18) (k (.int .i64 0))⟩, ⟨(some 20), none, .eq1 .bool true (t 17) (t 19)⟩])
  (.cond (t 20)
  (.seq (.reg [⟨(some 21), none, .mv (t 7)⟩, ⟨(some 22), none, .conv .i64 (t 21)⟩, ⟨(some 23), none, .un .neg (t 22)⟩, ⟨(some 24), none, .mv (t 6)⟩, ⟨(some 25), none, .bin .eql (t 24) (k (.int .u64 0))⟩, ⟨(some 26), none, .mv (t 25)⟩, ⟨(some 27), (some (26, true)), .mv (t 7)⟩, ⟨(some 28), (some (26, true)), .bin .leq (t 27) (k (.int .u64 9223372036854775808))⟩, ⟨(some 29), none, .pick (t 26) (t 28) (k (.bool false))⟩, ⟨(some 4), none, .mv (t 23)⟩, ⟨(some 5), none, .mv (t 29)⟩])
  .ret)
  .skip))
  (.seq (.reg [⟨(some 30), none, .mv (t 7)⟩, ⟨(some 31), none, .conv .i64 (t 30)⟩, ⟨(some 32), none, .mv (t 6)⟩, ⟨(some 33), none, .bin .eql (t 32) (k (.int .u64 0))⟩, ⟨(some 34), none, .mv (t 33)⟩, ⟨(some 35), (some (34, true)), .mv (t 7)⟩, ⟨(some 36), (some (34, true)), .bin .lss (t 35) (k (.int .u64 9223372036854775808))⟩, ⟨(some 37), none, .pick (t 34) (t 36) (k (.bool false))⟩, ⟨(some 4), none, .mv (t 31)⟩, ⟨(some 5), none, .mv (t 37)⟩])
  .ret))))
theorem fn96 : Fn Go.Proofs.Try.prog 96 38 [.inl 4, .inl 5] c96 :=
  ⟨⟨_, _, Go.Proofs.Try.func96, rfl, by kernel_rfl, Go.Proofs.Try.ntmps96, by kernel_rfl, ⟨fun f => imp.contains f, false⟩, by kernel_rfl⟩⟩

def c103 : C :=
  (.seq (.reg [⟨(some 2), none, .mv (k (.int .u64 0))⟩])
  (.seq (.seq (.reg [⟨(some 3), none, .mv (t 0)⟩, ⟨(some 4), none, .bin .lss (t 3) (k (.int .i64 0))⟩])
  (.cond (t 4)
  (.seq (.reg [⟨(some 5), none, .mv (t 0)⟩, ⟨(some 6), none, .conv .u64 (t 5)⟩, ⟨(some 7), none, .un .neg (t 6)⟩, ⟨(some 2), none, .mv (t 7)⟩])
  .ret)
  .skip))
  (.seq (.reg [⟨(some 8), none, .mv (t 0)⟩, ⟨(some 9), none, .conv .u64 (t 8)⟩, ⟨(some 2), none, .mv (t 9)⟩])
  .ret)))
theorem fn103 : Fn Go.Proofs.Try.prog 103 10 [.inl 2] c103 :=
  ⟨⟨_, _, Go.Proofs.Try.func103, rfl, by kernel_rfl, Go.Proofs.Try.ntmps103, by kernel_rfl, ⟨fun f => imp.contains f, false⟩, by kernel_rfl⟩⟩

end GP
