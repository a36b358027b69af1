import Derived.Test.YtoobncfcgknecaaGpF13
namespace GP
open Go Go.Proofs
open Rd O
def c23 : C :=
  (.seq (.reg [⟨(some 2), none, .box (t 0)⟩, ⟨(some 3), none, .box (t 1)⟩, ⟨(some 4), none, .alloc [(.int .i64 0), (.int .i64 0), (.str []), .nils]⟩, ⟨(some 5), none, .mv (k (.int .i64 0))⟩])
  (.seq (.seq (.reg [⟨(some 6), none, .load true 4 (t 2)⟩, ⟨(some 7), none, .pcall (k (.fn 11 [] [])) [(t 6)]⟩, ⟨(some 8), none, .un .not (t 7)⟩, ⟨(some 9), none, .mv (t 8)⟩, ⟨(some 10), (some (9, false)), .load true 4 (t 3)⟩, ⟨(some 11), (some (9, false)), .pcall (k (.fn 11 [] [])) [(t 10)]⟩, ⟨(some 12), (some (9, false)), .un .not (t 11)⟩, ⟨(some 13), none, .pick (t 9) (k (.bool true)) (t 12)⟩])
  (.cond (t 13)
  (.seq (.reg [⟨(some 14), none, .build [(.int .i64 0), (.int .i64 0), (.str []), .nils] []⟩, ⟨none, none, .store 4 (t 4) (t 14)⟩, ⟨(some 5), none, .mv (k (.int .i64 1))⟩])
  .ret)
  .skip))
  (.seq (.seq (.reg [⟨(some 15), none, .load true 4 (t 2)⟩, ⟨(some 16), none, .load true 4 (t 3)⟩, ⟨(some 17), none, .pcall (k (.fn 43 [] [])) [(t 15), (t 16)]⟩])
  (.block 0
  (.seq (.seq (.reg [⟨(some 19), none, .build [(.int .i64 0), (.int .i64 0)] [(0, 1, (k (.int .i64 2))), (1, 1, (k (.int .i64 2)))]⟩, ⟨(some 20), none, .eqa [.int, .int] false (t 17) (t 19)⟩, ⟨(some 18), none, .mv (t 20)⟩])
  (.cond (t 18)
  .skip
  (.reg [⟨(some 21), none, .build [(.int .i64 0), (.int .i64 0)] [(0, 1, (k (.int .i64 4))), (1, 1, (k (.int .i64 4)))]⟩, ⟨(some 22), none, .eqa [.int, .int] false (t 17) (t 21)⟩, ⟨(some 18), none, .mv (t 22)⟩])))
  (.cond (t 18)
  (.seq (.reg [⟨(some 23), none, .faddr 1 (t 2)⟩, ⟨(some 24), none, .load false 1 (t 23)⟩, ⟨(some 25), none, .faddr 1 (t 3)⟩, ⟨(some 26), none, .load false 1 (t 25)⟩, ⟨(some 27), none, .pcall (k (.fn 47 [] [])) [(t 24), (t 26)]⟩, ⟨(some 28), none, .ext 0 (t 27)⟩, ⟨(some 29), none, .ext 1 (t 27)⟩, ⟨(some 30), none, .pcall (k (.fn 44 [] [])) [(t 28), (t 29)]⟩, ⟨(some 31), none, .ext 0 (t 30)⟩, ⟨(some 32), none, .ext 1 (t 30)⟩, ⟨none, none, .store 4 (t 4) (t 31)⟩, ⟨(some 5), none, .mv (t 32)⟩])
  .ret)
  (.seq (.reg [⟨(some 34), none, .build [(.int .i64 0), (.int .i64 0)] [(0, 1, (k (.int .i64 4))), (1, 1, (k (.int .i64 2)))]⟩, ⟨(some 35), none, .eqa [.int, .int] false (t 17) (t 34)⟩, ⟨(some 33), none, .mv (t 35)⟩])
  (.cond (t 33)
  (.seq (.reg [⟨(some 36), none, .faddr 1 (t 2)⟩, ⟨(some 37), none, .load false 1 (t 36)⟩, ⟨(some 38), none, .faddr 1 (t 3)⟩, ⟨(some 39), none, .load false 1 (t 38)⟩, ⟨(some 40), none, .pcall (k (.fn 47 [] [])) [(t 37), (t 39)]⟩, ⟨(some 41), none, .ext 0 (t 40)⟩, ⟨(some 42), none, .ext 1 (t 40)⟩, ⟨(some 43), none, .pcall (k (.fn 46 [] [])) [(t 41), (t 42)]⟩, ⟨(some 44), none, .ext 0 (t 43)⟩, ⟨(some 45), none, .ext 1 (t 43)⟩, ⟨none, none, .store 4 (t 4) (t 44)⟩, ⟨(some 5), none, .mv (t 45)⟩])
  .ret)
  .skip))))))
  (.seq (.reg [⟨(some 46), none, .build [(.int .i64 0), (.int .i64 0), (.str []), .nils] []⟩, ⟨none, none, .store 4 (t 4) (t 46)⟩, ⟨(some 5), none, .mv (k (.int .i64 6))⟩])
  .ret))))
theorem fn23 : Fn Go.Proofs.Try.prog 23 47 [.inr (4, true, 4), .inl 5] c23 :=
  ⟨⟨_, _, Go.Proofs.Try.func23, rfl, by kernel_rfl, Go.Proofs.Try.ntmps23, by kernel_rfl, ⟨fun f => imp.contains f, false⟩, by kernel_rfl⟩⟩


def c24 : C :=
  (.seq (.reg [⟨(some 2), none, .box (t 0)⟩, ⟨(some 3), none, .box (t 1)⟩, ⟨(some 4), none, .alloc [(.int .i64 0), (.int .i64 0), (.str []), .nils]⟩, ⟨(some 5), none, .mv (k (.int .i64 0))⟩])
  (.seq (.block 0
  (.seq (.reg [⟨(some 7), none, .load true 4 (t 2)⟩, ⟨(some 8), none, .pcall (k (.fn 11 [] [])) [(t 7)]⟩, ⟨(some 9), none, .un .not (t 8)⟩, ⟨(some 10), none, .mv (t 9)⟩, ⟨(some 11), (some (10, false)), .load true 4 (t 3)⟩, ⟨(some 12), (some (10, false)), .pcall (k (.fn 11 [] [])) [(t 11)]⟩, ⟨(some 13), (some (10, false)), .un .not (t 12)⟩, ⟨(some 14), none, .pick (t 10) (k (.bool true)) (t 13)⟩, ⟨(some 6), none, .mv (t 14)⟩])
  (.cond (t 6)
  (.seq (.reg [⟨(some 15), none, .build [(.int .i64 0), (.int .i64 0), (.str []), .nils] []⟩, ⟨none, none, .store 4 (t 4) (t 15)⟩, ⟨(some 5), none, .mv (k (.int .i64 1))⟩])
  .ret)
  (.seq (.reg [⟨(some 17), none, .faddr 0 (t 2)⟩, ⟨(some 18), none, .load false 1 (t 17)⟩, ⟨(some 19), none, .bin .neq (t 18) (k (.int .i64 2))⟩, ⟨(some 20), none, .mv (t 19)⟩, ⟨(some 21), (some (20, false)), .faddr 0 (t 3)⟩, ⟨(some 22), (some (20, false)), .load false 1 (t 21)⟩, ⟨(some 23), (some (20, false)), .bin .neq (t 22) (k (.int .i64 2))⟩, ⟨(some 24), none, .pick (t 20) (k (.bool true)) (t 23)⟩, ⟨(some 16), none, .mv (t 24)⟩])
  (.cond (t 16)
  (.seq (.reg [⟨(some 25), none, .build [(.int .i64 0), (.int .i64 0), (.str []), .nils] []⟩, ⟨none, none, .store 4 (t 4) (t 25)⟩, ⟨(some 5), none, .mv (k (.int .i64 6))⟩])
  .ret)
  .skip)))))
  (.seq (.reg [⟨(some 26), none, .faddr 1 (t 2)⟩, ⟨(some 27), none, .load false 1 (t 26)⟩, ⟨(some 28), none, .faddr 1 (t 3)⟩, ⟨(some 29), none, .load false 1 (t 28)⟩, ⟨(some 30), none, .pcall (k (.fn 48 [] [])) [(t 27), (t 29)]⟩, ⟨(some 31), none, .ext 0 (t 30)⟩, ⟨(some 32), none, .ext 1 (t 30)⟩, ⟨(some 33), none, .pcall (k (.fn 44 [] [])) [(t 31), (t 32)]⟩, ⟨(some 34), none, .ext 0 (t 33)⟩, ⟨(some 35), none, .ext 1 (t 33)⟩, ⟨none, none, .store 4 (t 4) (t 34)⟩, ⟨(some 5), none, .mv (t 35)⟩])
  .ret)))
theorem fn24 : Fn Go.Proofs.Try.prog 24 36 [.inr (4, true, 4), .inl 5] c24 :=
  ⟨⟨_, _, Go.Proofs.Try.func24, rfl, by kernel_rfl, Go.Proofs.Try.ntmps24, by kernel_rfl, ⟨fun f => imp.contains f, false⟩, by kernel_rfl⟩⟩


def c25 : C :=
  (.seq (.reg [⟨(some 3), none, .box (t 0)⟩, ⟨(some 4), none, .box (t 1)⟩, ⟨(some 6), none, .alloc [(.int .i64 0), (.int .i64 0), (.str []), .nils]⟩, ⟨(some 7), none, .mv (k (.int .i64 0))⟩])
  (.seq (.reg [⟨(some 12), none, .faddr 1 (t 4)⟩, ⟨(some 13), none, .load false 1 (t 12)⟩, ⟨(some 14), none, .pcall (k (.fn 49 [] [])) [(t 13)]⟩, ⟨(some 8), none, .alloc [(.int .i64 0), (.int .u64 0)]⟩, ⟨none, none, .store 2 (t 8) (t 14)⟩])
  (.seq (.seq (.reg [⟨(some 15), none, .mv (t 2)⟩])
  (.cond (t 15)
  (.reg [⟨(some 16), none, .load true 2 (t 8)⟩, ⟨(some 17), none, .pcall (k (.fn 50 [] [])) [(t 16)]⟩, ⟨none, none, .store 2 (t 8) (t 17)⟩])
  .skip))
  (.seq (.draw 0 [(⟨(some 19), none, .faddr 1 (t 3)⟩, []), (⟨(some 20), none, .load false 1 (t 19)⟩, []), (⟨(some 21), none, .pcall (k (.fn 49 [] [])) [(t 20)]⟩, []), (⟨(some 22), none, .load true 2 (t 8)⟩, []), (⟨(some 23), none, .pcall (k (.fn 51 [] [])) [(t 21), (t 22)]⟩, []), (⟨(some 24), none, .pcall (k (.fn 27 [] [])) [(t 23)]⟩, []), (⟨(some 18), none, .mv (t 24)⟩, []), (⟨(some 25), none, .ext 0 (t 18)⟩, []), (⟨(some 26), none, .ext 1 (t 18)⟩, []), (⟨(some 9), none, .mv (t 25)⟩, []), (⟨(some 10), none, .mv (t 26)⟩, [])])
  (.seq (.reg [⟨(some 11), none, .mv (k (.int .i64 0))⟩])
  (.seq (.seq (.reg [⟨(some 27), none, .faddr 0 (t 3)⟩, ⟨(some 28), none, .load false 1 (t 27)⟩, ⟨(some 29), none, .bin .eql (t 28) (k (.int .i64 2))⟩, ⟨(some 30), none, .mv (t 29)⟩, ⟨(some 31), (some (30, true)), .faddr 0 (t 4)⟩, ⟨(some 32), (some (30, true)), .load false 1 (t 31)⟩, ⟨(some 33), (some (30, true)), .bin .eql (t 32) (k (.int .i64 2))⟩, ⟨(some 34), none, .pick (t 30) (t 33) (k (.bool false))⟩, ⟨(some 35), none, .mv (t 34)⟩, ⟨(some 36), (some (35, false)), .mv (t 2)⟩, ⟨(some 37), (some (35, false)), .mv (t 36)⟩, ⟨(some 38), (some (37, true)), .faddr 0 (t 3)⟩, ⟨(some 39), (some (37, true)), .load false 1 (t 38)⟩, ⟨(some 40), (some (37, true)), .bin .eql (t 39) (k (.int .i64 4))⟩, ⟨(some 41), (some (35, false)), .pick (t 37) (t 40) (k (.bool false))⟩, ⟨(some 42), (some (35, false)), .mv (t 41)⟩, ⟨(some 43), (some (42, true)), .faddr 0 (t 4)⟩, ⟨(some 44), (some (42, true)), .load false 1 (t 43)⟩, ⟨(some 45), (some (42, true)), .bin .eql (t 44) (k (.int .i64 4))⟩, ⟨(some 46), (some (35, false)), .pick (t 42) (t 45) (k (.bool false))⟩, ⟨(some 47), none, .pick (t 35) (k (.bool true)) (t 46)⟩])
  (.cond (t 47)
  (.reg [⟨(some 11), none, .mv (k (.int .i64 2))⟩])
  .skip))
  (.seq (.seq (.reg [⟨(some 48), none, .faddr 0 (t 3)⟩, ⟨(some 49), none, .load false 1 (t 48)⟩, ⟨(some 50), none, .bin .eql (t 49) (k (.int .i64 4))⟩, ⟨(some 51), none, .mv (t 50)⟩, ⟨(some 52), (some (51, true)), .faddr 0 (t 4)⟩, ⟨(some 53), (some (51, true)), .load false 1 (t 52)⟩, ⟨(some 54), (some (51, true)), .bin .eql (t 53) (k (.int .i64 2))⟩, ⟨(some 55), none, .pick (t 51) (t 54) (k (.bool false))⟩])
  (.cond (t 55)
  (.reg [⟨(some 11), none, .mv (k (.int .i64 4))⟩])
  .skip))
  (.seq (.seq (.reg [⟨(some 56), none, .mv (t 11)⟩, ⟨(some 57), none, .bin .eql (t 56) (k (.int .i64 0))⟩])
  (.cond (t 57)
  (.seq (.reg [⟨(some 58), none, .build [(.int .i64 0), (.int .i64 0), (.str []), .nils] []⟩, ⟨none, none, .store 4 (t 6) (t 58)⟩, ⟨(some 7), none, .mv (k (.int .i64 6))⟩])
  .ret)
  .skip))
  (.seq (.seq (.reg [⟨(some 59), none, .mv (t 10)⟩, ⟨(some 60), none, .un .not (t 59)⟩, ⟨(some 61), none, .mv (t 60)⟩, ⟨(some 62), (some (61, false)), .mv (t 11)⟩, ⟨(some 63), (some (61, false)), .bin .eql (t 62) (k (.int .i64 4))⟩, ⟨(some 64), (some (61, false)), .mv (t 63)⟩, ⟨(some 65), (some (64, true)), .mv (t 9)⟩, ⟨(some 66), (some (64, true)), .bin .lss (t 65) (k (.int .i64 0))⟩, ⟨(some 67), (some (64, true)), .mv (t 66)⟩, ⟨(some 68), (some (67, false)), .mv (t 9)⟩, ⟨(some 69), (some (67, false)), .bin .gtr (t 68) (k (.int .i64 1099511627776))⟩, ⟨(some 70), (some (64, true)), .pick (t 67) (k (.bool true)) (t 69)⟩, ⟨(some 71), (some (61, false)), .pick (t 64) (t 70) (k (.bool false))⟩, ⟨(some 72), none, .pick (t 61) (k (.bool true)) (t 71)⟩])
  (.cond (t 72)
  (.seq (.reg [⟨(some 73), none, .build [(.int .i64 0), (.int .i64 0), (.str []), .nils] []⟩, ⟨none, none, .store 4 (t 6) (t 73)⟩, ⟨(some 7), none, .mv (k (.int .i64 7))⟩])
  .ret)
  .skip))
  (.seq (.reg [⟨(some 74), none, .mv (t 11)⟩, ⟨(some 75), none, .mv (t 9)⟩, ⟨(some 76), none, .build [(.int .i64 0), (.int .i64 0), (.str []), .nils] [(0, 1, (t 74)), (1, 1, (t 75))]⟩, ⟨none, none, .store 4 (t 6) (t 76)⟩, ⟨(some 7), none, .mv (k (.int .i64 0))⟩])
  .ret))))))))))
theorem fn25 : Fn Go.Proofs.Try.prog 25 77 [.inr (6, true, 4), .inl 7] c25 :=
  ⟨⟨_, _, Go.Proofs.Try.func25, rfl, by kernel_rfl, Go.Proofs.Try.ntmps25, by kernel_rfl, ⟨fun f => imp.contains f, false⟩, by kernel_rfl⟩⟩


def c26 : C :=
  (.seq (.reg [⟨(some 4), none, .alloc [(.int .i64 0), (.int .u64 0)]⟩])
  (.seq (.reg [⟨(some 9), none, .mv (t 1)⟩, ⟨(some 10), none, .bin .lss (t 9) (k (.int .i64 0))⟩, ⟨(some 5), none, .mv (t 10)⟩])
  (.seq (.reg [⟨(some 11), none, .mv (t 1)⟩, ⟨(some 12), none, .conv .u64 (t 11)⟩, ⟨(some 6), none, .mv (t 12)⟩])
  (.seq (.seq (.reg [⟨(some 13), none, .mv (t 5)⟩])
  (.cond (t 13)
  (.reg [⟨(some 14), none, .mv (t 6)⟩, ⟨(some 15), none, .un .xor (t 14)⟩, ⟨(some 16), none, .bin .add (t 15) (k (.int .u64 1))⟩, ⟨(some 6), none, .mv (t 16)⟩])
  .skip))
  (.seq (.reg [⟨(some 17), none, .build [(.int .i64 0), (.int .u64 0)] []⟩, ⟨(some 18), none, .mv (t 0)⟩, ⟨(some 19), none, .pcall (k (.fn 49 [] [])) [(t 18)]⟩, ⟨(some 7), none, .alloc [(.int .i64 0), (.int .u64 0)]⟩, ⟨(some 8), none, .alloc [(.int .i64 0), (.int .u64 0)]⟩, ⟨none, none, .store 2 (t 7) (t 17)⟩, ⟨none, none, .store 2 (t 8) (t 19)⟩])
  (.seq (.block 0
  (.loop
  (.seq (.seq (.reg [⟨(some 20), none, .mv (t 6)⟩, ⟨(some 21), none, .bin .gtr (t 20) (k (.int .u64 0))⟩])
  (.cond (t 21)
  .skip
  (.exit 0)))
  (.block 1
  (.seq (.seq (.reg [⟨(some 22), none, .mv (t 6)⟩, ⟨(some 23), none, .bin .rem (t 22) (k (.int .u64 2))⟩, ⟨(some 24), none, .bin .eql (t 23) (k (.int .u64 1))⟩])
  (.cond (t 24)
  (.reg [⟨(some 25), none, .load true 2 (t 7)⟩, ⟨(some 26), none, .load true 2 (t 8)⟩, ⟨(some 27), none, .pcall (k (.fn 51 [] [])) [(t 25), (t 26)]⟩, ⟨none, none, .store 2 (t 7) (t 27)⟩])
  .skip))
  (.seq (.reg [⟨(some 28), none, .load true 2 (t 8)⟩, ⟨(some 29), none, .load true 2 (t 8)⟩, ⟨(some 30), none, .pcall (k (.fn 51 [] [])) [(t 28), (t 29)]⟩, ⟨none, none, .store 2 (t 8) (t 30)⟩])
  (.reg [⟨(some 31), none, .mv (t 6)⟩, ⟨(some 32), none, .bin .quo (t 31) (k (.int .u64 2))⟩, ⟨(some 6), none, .mv (t 32)⟩])))))))
  (.seq (.seq (.reg [⟨(some 33), none, .mv (t 5)⟩])
  (.cond (t 33)
  (.seq (.reg [⟨(some 34), none, .load true 2 (t 7)⟩, ⟨(some 35), none, .pcall (k (.fn 50 [] [])) [(t 34)]⟩, ⟨none, none, .store 2 (t 4) (t 35)⟩])
  .ret)
  .skip))
  (.seq (.reg [⟨(some 36), none, .load true 2 (t 7)⟩, ⟨none, none, .store 2 (t 4) (t 36)⟩])
  .ret))))))))
theorem fn26 : Fn Go.Proofs.Try.prog 26 37 [.inr (4, true, 2)] c26 :=
  ⟨⟨_, _, Go.Proofs.Try.func26, rfl, by kernel_rfl, Go.Proofs.Try.ntmps26, by kernel_rfl, ⟨fun f => imp.contains f, false⟩, by kernel_rfl⟩⟩


def c27 : C :=
  (.seq (.reg [⟨(some 1), none, .box (t 0)⟩, ⟨(some 2), none, .mv (k (.int .i64 0))⟩, ⟨(some 3), none, .mv (k (.bool false))⟩])
  (.seq (.reg [⟨(some 5), none, .faddr 1 (t 1)⟩, ⟨(some 6), none, .load false 1 (t 5)⟩, ⟨(some 7), none, .conv .i64 (t 6)⟩, ⟨(some 4), none, .mv (t 7)⟩])
  (.seq (.draw 0 [(⟨(some 8), none, .mv (t 4)⟩, []), (⟨(some 9), none, .mv (t 4)⟩, []), (⟨(some 10), none, .pcall (k (.fn 49 [] [])) [(t 9)]⟩, []), (⟨(some 11), none, .load true 2 (t 1)⟩, []), (⟨(some 12), none, .eqa [.int, .int] false (t 10) (t 11)⟩, []), (⟨(some 2), none, .mv (t 8)⟩, []), (⟨(some 3), none, .mv (t 12)⟩, [])])
  .ret)))
theorem fn27 : Fn Go.Proofs.Try.prog 27 13 [.inl 2, .inl 3] c27 :=
  ⟨⟨_, _, Go.Proofs.Try.func27, rfl, by kernel_rfl, Go.Proofs.Try.ntmps27, by kernel_rfl, ⟨fun f => imp.contains f, false⟩, by kernel_rfl⟩⟩


def c47 : C :=
  (.seq (.reg [⟨(some 4), none, .mv (k (.int .i64 0))⟩, ⟨(some 5), none, .mv (k (.bool false))⟩])
  (.seq (.reg [⟨(some 7), none, .mv (t 0)⟩, ⟨(some 8), none, .mv (t 1)⟩, ⟨(some 9), none, .bin .sub (t 7) (t 8)⟩, ⟨(some 6), none, .mv (t 9)⟩])
  (.seq (.reg [⟨(some 10), none, .mv (t 6)⟩, ⟨(some 11), none, .mv (t 0)⟩, ⟨(some 12), none, .bin .lss (t 11) (k (.int .i64 0))⟩, ⟨(some 13), none, .mv (t 1)⟩, ⟨(some 14), none, .bin .lss (t 13) (k (.int .i64 0))⟩, ⟨(some 15), none, .eq1 .bool false (t 12) (t 14)⟩, ⟨(some 16), none, .mv (t 15)⟩, ⟨(some 17), (some (16, false)), .mv (t 6)⟩, ⟨(some 18), (some (16, false)), .bin .lss (t 17) (k (.int .i64 0))⟩, ⟨(some 19), (some (16, false)), .mv (t 0)⟩, ⟨(some 20), (some (16, false)), .bin .lss (t 19) (k (.int .i64 0))⟩, ⟨(some 21), (some (16, false)), .eq1 .bool false (t 18) (t 20)⟩, ⟨(some 22), none, .pick (t 16) (k (.bool true)) (t 21)⟩, ⟨(some 4), none, .mv (t 10)⟩, ⟨(some 5), none, .mv (t 22)⟩])
  .ret)))
theorem fn47 : Fn Go.Proofs.Try.prog 47 23 [.inl 4, .inl 5] c47 :=
  ⟨⟨_, _, Go.Proofs.Try.func47, rfl, by kernel_rfl, Go.Proofs.Try.ntmps47, by kernel_rfl, ⟨fun f => imp.contains f, false⟩, by kernel_rfl⟩⟩


def c48 : C :=
  (.seq (.reg [⟨(some 4), none, .mv (k (.int .i64 0))⟩, ⟨(some 5), none, .mv (k (.bool false))⟩])
  (.seq (.reg [⟨(some 9), none, .mv (t 0)⟩, ⟨(some 10), none, .pcall (k (.fn 63 [] [])) [(t 9)]⟩, ⟨(some 11), none, .mv (t 1)⟩, ⟨(some 12), none, .pcall (k (.fn 63 [] [])) [(t 11)]⟩, ⟨(some 13), none, .pcall (k (.fn 62 [] [])) [(t 10), (t 12)]⟩, ⟨(some 8), none, .mv (t 13)⟩, ⟨(some 14), none, .ext 0 (t 8)⟩, ⟨(some 15), none, .ext 1 (t 8)⟩, ⟨(some 6), none, .mv (t 14)⟩, ⟨(some 7), none, .mv (t 15)⟩])
  (.seq (.seq (.reg [⟨(some 16), none, .mv (t 0)⟩, ⟨(some 17), none, .bin .lss (t 16) (k (.int .i64 0))⟩, ⟨(some 18), none, .mv (t 1)⟩, ⟨(some 19), none, .bin .lss (t 18) (k (.int .i64 0))⟩, ⟨(some 20), none, .eq1 .bool true (t 17) (t 19)⟩])
  (.cond (t 20)
  (.seq (.reg [⟨(some 21), none, .mv (t 7)⟩, ⟨(some 22), none, .conv .i64 (t 21)⟩, ⟨(some 23), none, .un .neg (t 22)⟩, ⟨(some 24), none, .mv (t 6)⟩, ⟨(some 25), none, .bin .eql (t 24) (k (.int .u64 0))⟩, ⟨(some 26), none, .mv (t 25)⟩, ⟨(some 27), (some (26, true)), .mv (t 7)⟩, ⟨(some 28), (some (26, true)), .bin .leq (t 27) (k (.int .u64 9223372036854775808))⟩, ⟨(some 29), none, .pick (t 26) (t 28) (k (.bool false))⟩, ⟨(some 4), none, .mv (t 23)⟩, ⟨(some 5), none, .mv (t 29)⟩])
  .ret)
  .skip))
  (.seq (.reg [⟨(some 30), none, .mv (t 7)⟩, ⟨(some 31), none, .conv .i64 (t 30)⟩, ⟨(some 32), none, .mv (t 6)⟩, ⟨(some 33), none, .bin .eql (t 32) (k (.int .u64 0))⟩, ⟨(some 34), none, .mv (t 33)⟩, ⟨(some 35), (some (34, true)), .mv (t 7)⟩, ⟨(some 36), (some (34, true)), .bin .lss (t 35) (k (.int .u64 9223372036854775808))⟩, ⟨(some 37), none, .pick (t 34) (t 36) (k (.bool false))⟩, ⟨(some 4), none, .mv (t 31)⟩, ⟨(some 5), none, .mv (t 37)⟩])
  .ret))))
theorem fn48 : Fn Go.Proofs.Try.prog 48 38 [.inl 4, .inl 5] c48 :=
  ⟨⟨_, _, Go.Proofs.Try.func48, rfl, by kernel_rfl, Go.Proofs.Try.ntmps48, by kernel_rfl, ⟨fun f => imp.contains f, false⟩, by kernel_rfl⟩⟩


def c49 : C :=
  (.seq (.reg [⟨(some 2), none, .alloc [(.int .i64 0), (.int .u64 0)]⟩])
  (.seq (.seq (.reg [⟨(some 3), none, .mv (t 0)⟩, ⟨(some 4), none, .bin .lss (t 3) (k (.int .i64 0))⟩])
  (.cond (t 4)
  (.seq (.reg [⟨(some 5), none, .mv (t 0)⟩, ⟨(some 6), none, .conv .u64 (t 5)⟩, ⟨(some 7), none, .build [(.int .i64 0), (.int .u64 0)] [(0, 1, (k (.int .i64 (-1)))), (1, 1, (t 6))]⟩, ⟨none, none, .store 2 (t 2) (t 7)⟩])
  .ret)
  .skip))
  (.seq (.reg [⟨(some 8), none, .mv (t 0)⟩, ⟨(some 9), none, .conv .u64 (t 8)⟩, ⟨(some 10), none, .build [(.int .i64 0), (.int .u64 0)] [(1, 1, (t 9))]⟩, ⟨none, none, .store 2 (t 2) (t 10)⟩])
  .ret)))
theorem fn49 : Fn Go.Proofs.Try.prog 49 11 [.inr (2, true, 2)] c49 :=
  ⟨⟨_, _, Go.Proofs.Try.func49, rfl, by kernel_rfl, Go.Proofs.Try.ntmps49, by kernel_rfl, ⟨fun f => imp.contains f, false⟩, by kernel_rfl⟩⟩


def c50 : C :=
  (.seq (.reg [⟨(some 1), none, .box (t 0)⟩, ⟨(some 2), none, .alloc [(.int .i64 0), (.int .u64 0)]⟩])
  (.seq (.reg [⟨(some 3), none, .faddr 0 (t 1)⟩, ⟨(some 4), none, .load false 1 (t 3)⟩, ⟨(some 5), none, .conv .u64 (t 4)⟩, ⟨(some 6), none, .un .xor (t 5)⟩, ⟨(some 7), none, .conv .i64 (t 6)⟩, ⟨(some 8), none, .faddr 1 (t 1)⟩, ⟨(some 9), none, .load false 1 (t 8)⟩, ⟨(some 10), none, .un .xor (t 9)⟩, ⟨(some 11), none, .build [(.int .i64 0), (.int .u64 0)] [(0, 1, (t 7)), (1, 1, (t 10))]⟩, ⟨(some 12), none, .build [(.int .i64 0), (.int .u64 0)] [(1, 1, (k (.int .u64 1)))]⟩, ⟨(some 13), none, .pcall (k (.fn 51 [] [])) [(t 11), (t 12)]⟩, ⟨none, none, .store 2 (t 2) (t 13)⟩])
  .ret))
theorem fn50 : Fn Go.Proofs.Try.prog 50 14 [.inr (2, true, 2)] c50 :=
  ⟨⟨_, _, Go.Proofs.Try.func50, rfl, by kernel_rfl, Go.Proofs.Try.ntmps50, by kernel_rfl, ⟨fun f => imp.contains f, false⟩, by kernel_rfl⟩⟩


def c51 : C :=
  (.seq (.reg [⟨(some 2), none, .box (t 0)⟩, ⟨(some 3), none, .box (t 1)⟩, ⟨(some 4), none, .alloc [(.int .i64 0), (.int .u64 0)]⟩])
  (.seq (.reg [⟨(some 7), none, .faddr 1 (t 2)⟩, ⟨(some 8), none, .load false 1 (t 7)⟩, ⟨(some 9), none, .faddr 1 (t 3)⟩, ⟨(some 10), none, .load false 1 (t 9)⟩, ⟨(some 11), none, .bin .add (t 8) (t 10)⟩, ⟨(some 5), none, .mv (t 11)⟩])
  (.seq (.reg [⟨(some 12), none, .faddr 0 (t 2)⟩, ⟨(some 13), none, .load false 1 (t 12)⟩, ⟨(some 14), none, .conv .u64 (t 13)⟩, ⟨(some 15), none, .faddr 0 (t 3)⟩, ⟨(some 16), none, .load false 1 (t 15)⟩, ⟨(some 17), none, .conv .u64 (t 16)⟩, ⟨(some 18), none, .bin .add (t 14) (t 17)⟩, ⟨(some 19), none, .conv .i64 (t 18)⟩, ⟨(some 6), none, .mv (t 19)⟩])
  (.seq (.seq (.reg [⟨(some 20), none, .mv (t 5)⟩, ⟨(some 21), none, .faddr 1 (t 2)⟩, ⟨(some 22), none, .load false 1 (t 21)⟩, ⟨(some 23), none, .bin .lss (t 20) (t 22)⟩])
  (.cond (t 23)
  (.reg [⟨(some 24), none, .mv (t 6)⟩, ⟨(some 25), none, .conv .u64 (t 24)⟩, ⟨(some 26), none, .bin .add (t 25) (k (.int .u64 1))⟩, ⟨(some 27), none, .conv .i64 (t 26)⟩, ⟨(some 6), none, .mv (t 27)⟩])
  .skip))
  (.seq (.reg [⟨(some 28), none, .mv (t 6)⟩, ⟨(some 29), none, .mv (t 5)⟩, ⟨(some 30), none, .build [(.int .i64 0), (.int .u64 0)] [(0, 1, (t 28)), (1, 1, (t 29))]⟩, ⟨none, none, .store 2 (t 4) (t 30)⟩])
  .ret)))))
theorem fn51 : Fn Go.Proofs.Try.prog 51 31 [.inr (4, true, 2)] c51 :=
  ⟨⟨_, _, Go.Proofs.Try.func51, rfl, by kernel_rfl, Go.Proofs.Try.ntmps51, by kernel_rfl, ⟨fun f => imp.contains f, false⟩, by kernel_rfl⟩⟩


def c62 : C :=
  (.seq (.reg [⟨(some 4), none, .mv (k (.int .u64 0))⟩, ⟨(some 5), none, .mv (k (.int .u64 0))⟩])
  (.seq (.reg [⟨(some 14), none, .mv (t 0)⟩, ⟨(some 15), none, .bin .and (t 14) (k (.int .u64 4294967295))⟩, ⟨(some 6), none, .mv (t 15)⟩])
  (.seq (.reg [⟨(some 16), none, .mv (t 0)⟩, ⟨(some 17), none, .bin .shr (t 16) (k (.int .u64 32))⟩, ⟨(some 7), none, .mv (t 17)⟩])
  (.seq (.reg [⟨(some 18), none, .mv (t 1)⟩, ⟨(some 19), none, .bin .and (t 18) (k (.int .u64 4294967295))⟩, ⟨(some 8), none, .mv (t 19)⟩])
  (.seq (.reg [⟨(some 20), none, .mv (t 1)⟩, ⟨(some 21), none, .bin .shr (t 20) (k (.int .u64 32))⟩, ⟨(some 9), none, .mv (t 21)⟩])
  (.seq (.reg [⟨(some 22), none, .mv (t 6)⟩, ⟨(some 23), none, .mv (t 8)⟩, ⟨(some 24), none, .bin .mul (t 22) (t 23)⟩, ⟨(some 10), none, .mv (t 24)⟩])
  (.seq (.reg [⟨(some 25), none, .mv (t 7)⟩, ⟨(some 26), none, .mv (t 8)⟩, ⟨(some 27), none, .bin .mul (t 25) (t 26)⟩, ⟨(some 28), none, .mv (t 10)⟩, ⟨(some 29), none, .bin .shr (t 28) (k (.int .u64 32))⟩, ⟨(some 30), none, .bin .add (t 27) (t 29)⟩, ⟨(some 11), none, .mv (t 30)⟩])
  (.seq (.reg [⟨(some 31), none, .mv (t 11)⟩, ⟨(some 32), none, .bin .and (t 31) (k (.int .u64 4294967295))⟩, ⟨(some 12), none, .mv (t 32)⟩])
  (.seq (.reg [⟨(some 33), none, .mv (t 11)⟩, ⟨(some 34), none, .bin .shr (t 33) (k (.int .u64 32))⟩, ⟨(some 13), none, .mv (t 34)⟩])
  (.seq (.reg [⟨(some 35), none, .mv (t 12)⟩, ⟨(some 36), none, .mv (t 6)⟩, ⟨(some 37), none, .mv (t 9)⟩, ⟨(some 38), none, .bin .mul (t 36) (t 37)⟩, ⟨(some 39), none, .bin .add (t 35) (t 38)⟩, ⟨(some 12), none, .mv (t 39)⟩])
  (.seq (.reg [⟨(some 40), none, .mv (t 7)⟩, ⟨(some 41), none, .mv (t 9)⟩, ⟨(some 42), none, .bin .mul (t 40) (t 41)⟩, ⟨(some 43), none, .mv (t 13)⟩, ⟨(some 44), none, .bin .add (t 42) (t 43)⟩, ⟨(some 45), none, .mv (t 12)⟩, ⟨(some 46), none, .bin .shr (t 45) (k (.int .u64 32))⟩, ⟨(some 47), none, .bin .add (t 44) (t 46)⟩, ⟨(some 4), none, .mv (t 47)⟩])
  (.seq (.reg [⟨(some 48), none, .mv (t 0)⟩, ⟨(some 49), none, .mv (t 1)⟩, ⟨(some 50), none, .bin .mul (t 48) (t 49)⟩, ⟨(some 5), none, .mv (t 50)⟩])
  .ret))))))))))))
theorem fn62 : Fn Go.Proofs.Try.prog 62 51 [.inl 4, .inl 5] c62 :=
  ⟨⟨_, _, Go.Proofs.Try.func62, rfl, by kernel_rfl, Go.Proofs.Try.ntmps62, by kernel_rfl, ⟨fun f => imp.contains f, false⟩, by kernel_rfl⟩⟩


def c63 : C :=
  (.seq (.reg [⟨(some 2), none, .mv (k (.int .u64 0))⟩])
  (.seq (.seq (.reg [⟨(some 3), none, .mv (t 0)⟩, ⟨(some 4), none, .bin .lss (t 3) (k (.int .i64 0))⟩])
  (.cond (t 4)
  (.seq (.reg [⟨(some 5), none, .mv (t 0)⟩, ⟨(some 6), none, .conv .u64 (t 5)⟩, ⟨(some 7), none, .un .neg (t 6)⟩, ⟨(some 2), none, .mv (t 7)⟩])
  .ret)
  .skip))
  (.seq (.reg [⟨(some 8), none, .mv (t 0)⟩, ⟨(some 9), none, .conv .u64 (t 8)⟩, ⟨(some 2), none, .mv (t 9)⟩])
  .ret)))
theorem fn63 : Fn Go.Proofs.Try.prog 63 10 [.inl 2] c63 :=
  ⟨⟨_, _, Go.Proofs.Try.func63, rfl, by kernel_rfl, Go.Proofs.Try.ntmps63, by kernel_rfl, ⟨fun f => imp.contains f, false⟩, by kernel_rfl⟩⟩

end GP
