import Derived.Test.YtoobncfcgknecaaGpS
import Derived.Test.YtoobncfcgknecaaChecked
import Derived.KernelRfl
namespace GP
open Go Go.Proofs
open Rd O
def imp : List Nat := [53]
def c4 : C :=
  (.seq (.reg [⟨(some 6), none, .mv (k (.bool false))⟩])
  (.seq (.seq (.reg [⟨(some 10), none, .pcall (k (.fn 9 [] [])) []⟩, ⟨(some 11), none, .un .not (t 10)⟩, ⟨(some 12), none, .mv (t 11)⟩, ⟨(some 13), (some (12, false)), .mv (t 2)⟩, ⟨(some 14), (some (12, false)), .lens (t 13)⟩, ⟨(some 15), (some (12, false)), .bin .gtr (t 14) (k (.int .i64 200))⟩, ⟨(some 16), none, .pick (t 12) (k (.bool true)) (t 15)⟩])
  (.cond (t 16)
  (.seq (.reg [⟨(some 17), none, .pcall (k (.fn 9 [] [])) []⟩, ⟨(some 6), none, .mv (t 17)⟩])
  .ret)
  .skip))
  (.seq (.reg [⟨(some 18), none, .mv (t 0)⟩, ⟨(some 19), none, .pcall (k (.fn 16 [] [])) [(t 18)]⟩, ⟨(some 20), none, .mv (t 1)⟩, ⟨(some 21), none, .pcall (k (.fn 17 [] [])) [(t 20)]⟩, ⟨(some 22), none, .mv (t 2)⟩, ⟨(some 23), none, .pcall (k (.fn 18 [] [])) [(t 22)]⟩, ⟨(some 7), none, .alloc [(.int .i64 0), (.int .i64 0), (.str []), .nils]⟩, ⟨(some 8), none, .alloc [(.int .i64 0), (.int .i64 0), (.str []), .nils]⟩, ⟨(some 9), none, .alloc [(.int .i64 0), (.int .i64 0), (.str []), .nils]⟩, ⟨none, none, .store 4 (t 7) (t 19)⟩, ⟨none, none, .store 4 (t 8) (t 21)⟩, ⟨none, none, .store 4 (t 9) (t 23)⟩])
  (.seq (.draw 0 [(⟨(some 24), none, .faddr 0 (t 7)⟩, []), (⟨(some 25), none, .load false 1 (t 24)⟩, []), (⟨(some 26), none, .bin .eql (t 25) (k (.int .i64 1))⟩, []), (⟨(some 27), none, .mv (t 26)⟩, []), (⟨(some 28), (some (27, true)), .faddr 1 (t 7)⟩, []), (⟨(some 29), (some (27, true)), .load false 1 (t 28)⟩, []), (⟨(some 30), (some (27, true)), .bin .eql (t 29) (k (.int .i64 1))⟩, []), (⟨(some 31), (some (27, true)), .mv (t 0)⟩, []), (⟨(some 32), (some (27, true)), .eq1 .bool false (t 30) (t 31)⟩, []), (⟨(some 33), none, .pick (t 27) (t 32) (k (.bool false))⟩, []), (⟨(some 34), none, .mv (t 33)⟩, []), (⟨(some 35), (some (34, true)), .faddr 0 (t 8)⟩, []), (⟨(some 36), (some (34, true)), .load false 1 (t 35)⟩, []), (⟨(some 37), (some (34, true)), .bin .eql (t 36) (k (.int .i64 2))⟩, []), (⟨(some 38), none, .pick (t 34) (t 37) (k (.bool false))⟩, []), (⟨(some 39), none, .mv (t 38)⟩, []), (⟨(some 40), (some (39, true)), .faddr 1 (t 8)⟩, []), (⟨(some 41), (some (39, true)), .load false 1 (t 40)⟩, []), (⟨(some 42), (some (39, true)), .mv (t 1)⟩, []), (⟨(some 43), (some (39, true)), .bin .eql (t 41) (t 42)⟩, []), (⟨(some 44), none, .pick (t 39) (t 43) (k (.bool false))⟩, []), (⟨(some 45), none, .mv (t 44)⟩, []), (⟨(some 46), (some (45, true)), .faddr 0 (t 9)⟩, []), (⟨(some 47), (some (45, true)), .load false 1 (t 46)⟩, []), (⟨(some 48), (some (45, true)), .bin .eql (t 47) (k (.int .i64 3))⟩, []), (⟨(some 49), none, .pick (t 45) (t 48) (k (.bool false))⟩, []), (⟨(some 50), none, .mv (t 49)⟩, []), (⟨(some 51), (some (50, true)), .faddr 2 (t 9)⟩, []), (⟨(some 52), (some (50, true)), .load false 1 (t 51)⟩, []), (⟨(some 53), (some (50, true)), .mv (t 2)⟩, []), (⟨(some 54), (some (50, true)), .mv (t 2)⟩, []), (⟨(some 55), (some (50, true)), .lens (t 54)⟩, []), (⟨(some 56), (some (50, true)), .mn (t 55) (k (.int .i64 64))⟩, []), (⟨(some 57), (some (50, true)), .subs (t 53) none (some (t 56))⟩, []), (⟨(some 58), (some (50, true)), .bin .eql (t 52) (t 57)⟩, []), (⟨(some 59), none, .pick (t 50) (t 58) (k (.bool false))⟩, []), (⟨(some 60), none, .mv (t 59)⟩, []), (⟨(some 61), (some (60, true)), .load true 4 (t 7)⟩, []), (⟨(some 62), (some (60, true)), .pcall (k (.fn 11 [] [])) [(t 61)]⟩, []), (⟨(some 63), none, .pick (t 60) (t 62) (k (.bool false))⟩, []), (⟨(some 64), none, .mv (t 63)⟩, []), (⟨(some 65), (some (64, true)), .load true 4 (t 8)⟩, []), (⟨(some 66), (some (64, true)), .pcall (k (.fn 11 [] [])) [(t 65)]⟩, []), (⟨(some 67), none, .pick (t 64) (t 66) (k (.bool false))⟩, []), (⟨(some 68), none, .mv (t 67)⟩, []), (⟨(some 69), (some (68, true)), .load true 4 (t 9)⟩, []), (⟨(some 70), (some (68, true)), .pcall (k (.fn 11 [] [])) [(t 69)]⟩, []), (⟨(some 71), none, .pick (t 68) (t 70) (k (.bool false))⟩, []), (⟨(some 6), none, .mv (t 71)⟩, [])])
  .ret))))
theorem fn4 : Fn Go.Proofs.Try.prog 4 72 [.inl 6] c4 :=
  ⟨⟨_, _, Go.Proofs.Try.func4, rfl, by kernel_rfl, Go.Proofs.Try.ntmps4, by kernel_rfl, ⟨fun f => imp.contains f, false⟩, by kernel_rfl⟩⟩

def c9 : C :=
  (.seq (.reg [⟨(some 0), none, .mv (k (.bool false))⟩])
  (.seq (.reg [⟨(some 4), none, .pcall (k (.fn 17 [] [])) [(k (.int .i64 2))]⟩, ⟨(some 5), none, .pcall (k (.fn 17 [] [])) [(k (.int .i64 3))]⟩, ⟨(some 6), none, .pcall (k (.fn 22 [] [])) [(t 4), (t 5)]⟩, ⟨(some 3), none, .mv (t 6)⟩, ⟨(some 7), none, .ext 0 (t 3)⟩, ⟨(some 8), none, .ext 1 (t 3)⟩, ⟨(some 1), none, .alloc [(.int .i64 0), (.int .i64 0), (.str []), .nils]⟩, ⟨none, none, .store 4 (t 1) (t 7)⟩, ⟨(some 2), none, .mv (t 8)⟩])
  (.seq (.reg [⟨(some 9), none, .mv (t 2)⟩, ⟨(some 10), none, .bin .eql (t 9) (k (.int .i64 0))⟩, ⟨(some 11), none, .mv (t 10)⟩, ⟨(some 12), (some (11, true)), .faddr 1 (t 1)⟩, ⟨(some 13), (some (11, true)), .load false 1 (t 12)⟩, ⟨(some 14), (some (11, true)), .bin .eql (t 13) (k (.int .i64 5))⟩, ⟨(some 15), none, .pick (t 11) (t 14) (k (.bool false))⟩, ⟨(some 16), none, .mv (t 15)⟩, ⟨(some 17), (some (16, true)), .load true 4 (t 1)⟩, ⟨(some 18), (some (16, true)), .pcall (k (.fn 11 [] [])) [(t 17)]⟩, ⟨(some 19), none, .pick (t 16) (t 18) (k (.bool false))⟩, ⟨(some 0), none, .mv (t 19)⟩])
  .ret)))
theorem fn9 : Fn Go.Proofs.Try.prog 9 20 [.inl 0] c9 :=
  ⟨⟨_, _, Go.Proofs.Try.func9, rfl, by kernel_rfl, Go.Proofs.Try.ntmps9, by kernel_rfl, ⟨fun f => imp.contains f, false⟩, by kernel_rfl⟩⟩

def c11 : C :=
  (.seq (.reg [⟨(some 1), none, .box (t 0)⟩, ⟨(some 2), none, .mv (k (.bool false))⟩])
  (.seq (.seq (.reg [⟨(some 5), none, .faddr 0 (t 1)⟩, ⟨(some 6), none, .load false 1 (t 5)⟩, ⟨(some 7), none, .bin .neq (t 6) (k (.int .i64 5))⟩])
  (.cond (t 7)
  (.seq (.reg [⟨(some 8), none, .load true 4 (t 1)⟩, ⟨(some 9), none, .pcall (k (.fn 31 [] [])) [(t 8)]⟩, ⟨(some 2), none, .mv (t 9)⟩])
  .ret)
  .skip))
  (.seq (.seq (.reg [⟨(some 10), none, .faddr 3 (t 1)⟩, ⟨(some 11), none, .load false 1 (t 10)⟩, ⟨(some 12), none, .len (t 11)⟩, ⟨(some 13), none, .mv (k (.int .i64 0))⟩])
  (.block 0
  (.loop
  (.seq (.reg [⟨(some 14), none, .bin .lss (t 13) (t 12)⟩])
  (.seq (.cond (t 14)
  .skip
  (.exit 0))
  (.seq (.block 1
  (.seq (.reg [⟨(some 15), none, .mv (t 13)⟩, ⟨(some 16), none, .iaddr 4 (t 11) (t 13)⟩, ⟨(some 17), none, .load true 4 (t 16)⟩, ⟨(some 4), none, .alloc [(.int .i64 0), (.int .i64 0), (.str []), .nils]⟩, ⟨(some 3), none, .mv (t 15)⟩, ⟨none, none, .store 4 (t 4) (t 17)⟩])
  (.seq (.draw 0 [(⟨(some 18), none, .load true 4 (t 4)⟩, []), (⟨(some 19), none, .pcall (k (.fn 31 [] [])) [(t 18)]⟩, []), (⟨(some 20), none, .un .not (t 19)⟩, []), (⟨(some 21), none, .mv (t 20)⟩, []), (⟨(some 22), (some (21, false)), .faddr 0 (t 4)⟩, []), (⟨(some 23), (some (21, false)), .load false 1 (t 22)⟩, []), (⟨(some 24), (some (21, false)), .bin .eql (t 23) (k (.int .i64 0))⟩, []), (⟨(some 25), none, .pick (t 21) (k (.bool true)) (t 24)⟩, []), (⟨(some 26), none, .mv (t 25)⟩, []), (⟨(some 27), (some (26, false)), .faddr 0 (t 4)⟩, []), (⟨(some 28), (some (26, false)), .load false 1 (t 27)⟩, []), (⟨(some 29), (some (26, false)), .faddr 3 (t 1)⟩, []), (⟨(some 30), (some (26, false)), .load false 1 (t 29)⟩, []), (⟨(some 31), (some (26, false)), .iaddr 4 (t 30) (k (.int .i64 0))⟩, []), (⟨(some 32), (some (26, false)), .faddr 0 (t 31)⟩, []), (⟨(some 33), (some (26, false)), .load false 1 (t 32)⟩, []), (⟨(some 34), (some (26, false)), .bin .neq (t 28) (t 33)⟩, []), (⟨(some 35), none, .pick (t 26) (k (.bool true)) (t 34)⟩, []), (⟨(some 36), none, .mv (t 35)⟩, []), (⟨(some 37), (some (36, false)), .mv (t 3)⟩, []), (⟨(some 38), (some (36, false)), .bin .gtr (t 37) (k (.int .i64 0))⟩, []), (⟨(some 39), (some (36, false)), .mv (t 38)⟩, []), (⟨(some 40), (some (39, true)), .faddr 3 (t 1)⟩, []), (⟨(some 41), (some (39, true)), .load false 1 (t 40)⟩, []), (⟨(some 42), (some (39, true)), .mv (t 3)⟩, []), (⟨(some 43), (some (39, true)), .bin .sub (t 42) (k (.int .i64 1))⟩, []), (⟨(some 44), (some (39, true)), .iaddr 4 (t 41) (t 43)⟩, []), (⟨(some 45), (some (39, true)), .load true 4 (t 44)⟩, []), (⟨(some 46), (some (39, true)), .load true 4 (t 4)⟩, []), (⟨(some 47), (some (39, true)), .pcall (k (.fn 13 [] [])) [(t 45), (t 46)]⟩, []), (⟨(some 48), (some (39, true)), .bin .geq (t 47) (k (.int .i64 0))⟩, []), (⟨(some 49), (some (36, false)), .pick (t 39) (t 48) (k (.bool false))⟩, []), (⟨(some 50), none, .pick (t 36) (k (.bool true)) (t 49)⟩, [])])
  (.cond (t 50)
  (.seq (.reg [⟨(some 2), none, .mv (k (.bool false))⟩])
  .ret)
  .skip))))
  (.reg [⟨(some 51), none, .bin .add (t 13) (k (.int .i64 1))⟩, ⟨(some 13), none, .mv (t 51)⟩])))))))
  (.seq (.reg [⟨(some 52), none, .faddr 1 (t 1)⟩, ⟨(some 53), none, .load false 1 (t 52)⟩, ⟨(some 54), none, .bin .eql (t 53) (k (.int .i64 0))⟩, ⟨(some 55), none, .mv (t 54)⟩, ⟨(some 56), (some (55, true)), .faddr 2 (t 1)⟩, ⟨(some 57), (some (55, true)), .load false 1 (t 56)⟩, ⟨(some 58), (some (55, true)), .bin .eql (t 57) (k (.str []))⟩, ⟨(some 59), none, .pick (t 55) (t 58) (k (.bool false))⟩, ⟨(some 60), none, .mv (t 59)⟩, ⟨(some 61), (some (60, true)), .faddr 3 (t 1)⟩, ⟨(some 62), (some (60, true)), .load false 1 (t 61)⟩, ⟨(some 63), (some (60, true)), .len (t 62)⟩, ⟨(some 64), (some (60, true)), .bin .leq (t 63) (k (.int .i64 16))⟩, ⟨(some 65), none, .pick (t 60) (t 64) (k (.bool false))⟩, ⟨(some 2), none, .mv (t 65)⟩])
  .ret))))
theorem fn11 : Fn Go.Proofs.Try.prog 11 66 [.inl 2] c11 :=
  ⟨⟨_, _, Go.Proofs.Try.func11, rfl, by kernel_rfl, Go.Proofs.Try.ntmps11, by kernel_rfl, ⟨fun f => imp.contains f, false⟩, by kernel_rfl⟩⟩

def c16 : C :=
  (.seq (.reg [⟨(some 2), none, .alloc [(.int .i64 0), (.int .i64 0), (.str []), .nils]⟩])
  (.seq (.seq (.reg [⟨(some 3), none, .mv (t 0)⟩])
  (.cond (t 3)
  (.seq (.reg [⟨(some 4), none, .build [(.int .i64 0), (.int .i64 0), (.str []), .nils] [(0, 1, (k (.int .i64 1))), (1, 1, (k (.int .i64 1)))]⟩, ⟨none, none, .store 4 (t 2) (t 4)⟩])
  .ret)
  .skip))
  (.seq (.reg [⟨(some 5), none, .build [(.int .i64 0), (.int .i64 0), (.str []), .nils] [(0, 1, (k (.int .i64 1)))]⟩, ⟨none, none, .store 4 (t 2) (t 5)⟩])
  .ret)))
theorem fn16 : Fn Go.Proofs.Try.prog 16 6 [.inr (2, true, 4)] c16 :=
  ⟨⟨_, _, Go.Proofs.Try.func16, rfl, by kernel_rfl, Go.Proofs.Try.ntmps16, by kernel_rfl, ⟨fun f => imp.contains f, false⟩, by kernel_rfl⟩⟩

def c17 : C :=
  (.seq (.reg [⟨(some 2), none, .alloc [(.int .i64 0), (.int .i64 0), (.str []), .nils]⟩])
  (.seq (.reg [⟨(some 3), none, .mv (t 0)⟩, ⟨(some 4), none, .build [(.int .i64 0), (.int .i64 0), (.str []), .nils] [(0, 1, (k (.int .i64 2))), (1, 1, (t 3))]⟩, ⟨none, none, .store 4 (t 2) (t 4)⟩])
  .ret))
theorem fn17 : Fn Go.Proofs.Try.prog 17 5 [.inr (2, true, 4)] c17 :=
  ⟨⟨_, _, Go.Proofs.Try.func17, rfl, by kernel_rfl, Go.Proofs.Try.ntmps17, by kernel_rfl, ⟨fun f => imp.contains f, false⟩, by kernel_rfl⟩⟩

def c18 : C :=
  (.seq (.reg [⟨(some 2), none, .alloc [(.int .i64 0), (.int .i64 0), (.str []), .nils]⟩])
  (.seq (.reg [⟨(some 3), none, .mv (t 0)⟩, ⟨(some 4), none, .mv (t 0)⟩, ⟨(some 5), none, .lens (t 4)⟩, ⟨(some 6), none, .mn (t 5) (k (.int .i64 64))⟩, ⟨(some 7), none, .subs (t 3) none (some (t 6))⟩, ⟨(some 8), none, .build [(.int .i64 0), (.int .i64 0), (.str []), .nils] [(0, 1, (k (.int .i64 3))), (2, 1, (t 7))]⟩, ⟨none, none, .store 4 (t 2) (t 8)⟩])
  .ret))
theorem fn18 : Fn Go.Proofs.Try.prog 18 9 [.inr (2, true, 4)] c18 :=
  ⟨⟨_, _, Go.Proofs.Try.func18, rfl, by kernel_rfl, Go.Proofs.Try.ntmps18, by kernel_rfl, ⟨fun f => imp.contains f, false⟩, by kernel_rfl⟩⟩

def c22 : C :=
  (.seq (.reg [⟨(some 2), none, .box (t 0)⟩, ⟨(some 3), none, .box (t 1)⟩, ⟨(some 4), none, .alloc [(.int .i64 0), (.int .i64 0), (.str []), .nils]⟩, ⟨(some 5), none, .mv (k (.int .i64 0))⟩])
  (.seq (.seq (.reg [⟨(some 6), none, .load true 4 (t 2)⟩, ⟨(some 7), none, .pcall (k (.fn 11 [] [])) [(t 6)]⟩, ⟨(some 8), none, .un .not (t 7)⟩, ⟨(some 9), none, .mv (t 8)⟩, ⟨(some 10), (some (9, false)), .load true 4 (t 3)⟩, ⟨(some 11), (some (9, false)), .pcall (k (.fn 11 [] [])) [(t 10)]⟩, ⟨(some 12), (some (9, false)), .un .not (t 11)⟩, ⟨(some 13), none, .pick (t 9) (k (.bool true)) (t 12)⟩])
  (.cond (t 13)
  (.seq (.reg [⟨(some 14), none, .build [(.int .i64 0), (.int .i64 0), (.str []), .nils] []⟩, ⟨none, none, .store 4 (t 4) (t 14)⟩, ⟨(some 5), none, .mv (k (.int .i64 1))⟩])
  .ret)
  .skip))
  (.seq (.seq (.reg [⟨(some 15), none, .load true 4 (t 2)⟩, ⟨(some 16), none, .load true 4 (t 3)⟩, ⟨(some 17), none, .pcall (k (.fn 43 [] [])) [(t 15), (t 16)]⟩])
  (.block 0
  (.seq (.reg [⟨(some 19), none, .build [(.int .i64 0), (.int .i64 0)] [(0, 1, (k (.int .i64 2))), (1, 1, (k (.int .i64 2)))]⟩, ⟨(some 20), none, .eqa [.int, .int] false (t 17) (t 19)⟩, ⟨(some 18), none, .mv (t 20)⟩])
  (.cond (t 18)
  (.seq (.reg [⟨(some 21), none, .faddr 1 (t 2)⟩, ⟨(some 22), none, .load false 1 (t 21)⟩, ⟨(some 23), none, .faddr 1 (t 3)⟩, ⟨(some 24), none, .load false 1 (t 23)⟩, ⟨(some 25), none, .pcall (k (.fn 45 [] [])) [(t 22), (t 24)]⟩, ⟨(some 26), none, .ext 0 (t 25)⟩, ⟨(some 27), none, .ext 1 (t 25)⟩, ⟨(some 28), none, .pcall (k (.fn 44 [] [])) [(t 26), (t 27)]⟩, ⟨(some 29), none, .ext 0 (t 28)⟩, ⟨(some 30), none, .ext 1 (t 28)⟩, ⟨none, none, .store 4 (t 4) (t 29)⟩, ⟨(some 5), none, .mv (t 30)⟩])
  .ret)
  (.seq (.reg [⟨(some 32), none, .build [(.int .i64 0), (.int .i64 0)] [(0, 1, (k (.int .i64 4))), (1, 1, (k (.int .i64 2)))]⟩, ⟨(some 33), none, .eqa [.int, .int] false (t 17) (t 32)⟩, ⟨(some 31), none, .mv (t 33)⟩])
  (.cond (t 31)
  (.seq (.reg [⟨(some 34), none, .faddr 1 (t 2)⟩, ⟨(some 35), none, .load false 1 (t 34)⟩, ⟨(some 36), none, .faddr 1 (t 3)⟩, ⟨(some 37), none, .load false 1 (t 36)⟩, ⟨(some 38), none, .pcall (k (.fn 45 [] [])) [(t 35), (t 37)]⟩, ⟨(some 39), none, .ext 0 (t 38)⟩, ⟨(some 40), none, .ext 1 (t 38)⟩, ⟨(some 41), none, .pcall (k (.fn 46 [] [])) [(t 39), (t 40)]⟩, ⟨(some 42), none, .ext 0 (t 41)⟩, ⟨(some 43), none, .ext 1 (t 41)⟩, ⟨none, none, .store 4 (t 4) (t 42)⟩, ⟨(some 5), none, .mv (t 43)⟩])
  .ret)
  .skip))))))
  (.seq (.reg [⟨(some 44), none, .build [(.int .i64 0), (.int .i64 0), (.str []), .nils] []⟩, ⟨none, none, .store 4 (t 4) (t 44)⟩, ⟨(some 5), none, .mv (k (.int .i64 6))⟩])
  .ret))))
theorem fn22 : Fn Go.Proofs.Try.prog 22 45 [.inr (4, true, 4), .inl 5] c22 :=
  ⟨⟨_, _, Go.Proofs.Try.func22, rfl, by kernel_rfl, Go.Proofs.Try.ntmps22, by kernel_rfl, ⟨fun f => imp.contains f, false⟩, by kernel_rfl⟩⟩

def c31 : C :=
  (.seq (.reg [⟨(some 1), none, .box (t 0)⟩, ⟨(some 2), none, .mv (k (.bool false))⟩])
  (.seq (.seq (.reg [⟨(some 3), none, .faddr 3 (t 1)⟩, ⟨(some 4), none, .load false 1 (t 3)⟩, ⟨(some 5), none, .len (t 4)⟩, ⟨(some 6), none, .bin .gtr (t 5) (k (.int .i64 0))⟩, ⟨(some 7), none, .mv (t 6)⟩, ⟨(some 8), (some (7, false)), .faddr 0 (t 1)⟩, ⟨(some 9), (some (7, false)), .load false 1 (t 8)⟩, ⟨(some 10), (some (7, false)), .bin .neq (t 9) (k (.int .i64 3))⟩, ⟨(some 11), (some (7, false)), .mv (t 10)⟩, ⟨(some 12), (some (11, true)), .faddr 2 (t 1)⟩, ⟨(some 13), (some (11, true)), .load false 1 (t 12)⟩, ⟨(some 14), (some (11, true)), .bin .neq (t 13) (k (.str []))⟩, ⟨(some 15), (some (7, false)), .pick (t 11) (t 14) (k (.bool false))⟩, ⟨(some 16), none, .pick (t 7) (k (.bool true)) (t 15)⟩])
  (.cond (t 16)
  (.seq (.reg [⟨(some 2), none, .mv (k (.bool false))⟩])
  .ret)
  .skip))
  (.seq (.seq (.reg [⟨(some 17), none, .faddr 0 (t 1)⟩, ⟨(some 18), none, .load false 1 (t 17)⟩])
  (.block 0
  (.seq (.reg [⟨(some 20), none, .bin .eql (t 18) (k (.int .i64 0))⟩, ⟨(some 19), none, .mv (t 20)⟩])
  (.cond (t 19)
  (.seq (.reg [⟨(some 21), none, .faddr 1 (t 1)⟩, ⟨(some 22), none, .load false 1 (t 21)⟩, ⟨(some 23), none, .bin .eql (t 22) (k (.int .i64 0))⟩, ⟨(some 2), none, .mv (t 23)⟩])
  .ret)
  (.seq (.reg [⟨(some 25), none, .bin .eql (t 18) (k (.int .i64 1))⟩, ⟨(some 24), none, .mv (t 25)⟩])
  (.cond (t 24)
  (.seq (.reg [⟨(some 26), none, .faddr 1 (t 1)⟩, ⟨(some 27), none, .load false 1 (t 26)⟩, ⟨(some 28), none, .bin .eql (t 27) (k (.int .i64 0))⟩, ⟨(some 29), none, .mv (t 28)⟩, ⟨(some 30), (some (29, false)), .faddr 1 (t 1)⟩, ⟨(some 31), (some (29, false)), .load false 1 (t 30)⟩, ⟨(some 32), (some (29, false)), .bin .eql (t 31) (k (.int .i64 1))⟩, ⟨(some 33), none, .pick (t 29) (k (.bool true)) (t 32)⟩, ⟨(some 2), none, .mv (t 33)⟩])
  .ret)
  (.seq (.reg [⟨(some 35), none, .bin .eql (t 18) (k (.int .i64 2))⟩, ⟨(some 34), none, .mv (t 35)⟩])
  (.cond (t 34)
  (.seq (.reg [⟨(some 2), none, .mv (k (.bool true))⟩])
  .ret)
  (.seq (.reg [⟨(some 37), none, .bin .eql (t 18) (k (.int .i64 3))⟩, ⟨(some 36), none, .mv (t 37)⟩])
  (.cond (t 36)
  (.seq (.reg [⟨(some 38), none, .faddr 1 (t 1)⟩, ⟨(some 39), none, .load false 1 (t 38)⟩, ⟨(some 40), none, .bin .eql (t 39) (k (.int .i64 0))⟩, ⟨(some 41), none, .mv (t 40)⟩, ⟨(some 42), (some (41, true)), .faddr 2 (t 1)⟩, ⟨(some 43), (some (41, true)), .load false 1 (t 42)⟩, ⟨(some 44), (some (41, true)), .lens (t 43)⟩, ⟨(some 45), (some (41, true)), .bin .leq (t 44) (k (.int .i64 64))⟩, ⟨(some 46), none, .pick (t 41) (t 45) (k (.bool false))⟩, ⟨(some 2), none, .mv (t 46)⟩])
  .ret)
  (.seq (.reg [⟨(some 48), none, .bin .eql (t 18) (k (.int .i64 4))⟩, ⟨(some 47), none, .mv (t 48)⟩])
  (.cond (t 47)
  (.seq (.reg [⟨(some 49), none, .faddr 1 (t 1)⟩, ⟨(some 50), none, .load false 1 (t 49)⟩, ⟨(some 51), none, .bin .geq (t 50) (k (.int .i64 0))⟩, ⟨(some 52), none, .mv (t 51)⟩, ⟨(some 53), (some (52, true)), .faddr 1 (t 1)⟩, ⟨(some 54), (some (52, true)), .load false 1 (t 53)⟩, ⟨(some 55), (some (52, true)), .bin .leq (t 54) (k (.int .i64 1099511627776))⟩, ⟨(some 56), none, .pick (t 52) (t 55) (k (.bool false))⟩, ⟨(some 2), none, .mv (t 56)⟩])
  .ret)
  .skip))))))))))))
  (.seq (.reg [⟨(some 2), none, .mv (k (.bool false))⟩])
  .ret))))
theorem fn31 : Fn Go.Proofs.Try.prog 31 57 [.inl 2] c31 :=
  ⟨⟨_, _, Go.Proofs.Try.func31, rfl, by kernel_rfl, Go.Proofs.Try.ntmps31, by kernel_rfl, ⟨fun f => imp.contains f, false⟩, by kernel_rfl⟩⟩

def c43 : C :=
  (.seq (.reg [⟨(some 2), none, .box (t 0)⟩, ⟨(some 3), none, .box (t 1)⟩, ⟨(some 4), none, .alloc [(.int .i64 0), (.int .i64 0)]⟩])
  (.seq (.reg [⟨(some 5), none, .faddr 0 (t 2)⟩, ⟨(some 6), none, .load false 1 (t 5)⟩, ⟨(some 7), none, .faddr 0 (t 3)⟩, ⟨(some 8), none, .load false 1 (t 7)⟩, ⟨(some 9), none, .build [(.int .i64 0), (.int .i64 0)] [(0, 1, (t 6)), (1, 1, (t 8))]⟩, ⟨none, none, .store 2 (t 4) (t 9)⟩])
  .ret))
theorem fn43 : Fn Go.Proofs.Try.prog 43 10 [.inr (4, true, 2)] c43 :=
  ⟨⟨_, _, Go.Proofs.Try.func43, rfl, by kernel_rfl, Go.Proofs.Try.ntmps43, by kernel_rfl, ⟨fun f => imp.contains f, false⟩, by kernel_rfl⟩⟩

def c44 : C :=
  (.seq (.reg [⟨(some 4), none, .alloc [(.int .i64 0), (.int .i64 0), (.str []), .nils]⟩, ⟨(some 5), none, .mv (k (.int .i64 0))⟩])
  (.seq (.seq (.reg [⟨(some 6), none, .mv (t 1)⟩, ⟨(some 7), none, .un .not (t 6)⟩])
  (.cond (t 7)
  (.seq (.reg [⟨(some 8), none, .build [(.int .i64 0), (.int .i64 0), (.str []), .nils] []⟩, ⟨none, none, .store 4 (t 4) (t 8)⟩, ⟨(some 5), none, .mv (k (.int .i64 7))⟩])
  .ret)
  .skip))
  (.seq (.reg [⟨(some 9), none, .mv (t 0)⟩, ⟨(some 10), none, .pcall (k (.fn 17 [] [])) [(t 9)]⟩, ⟨none, none, .store 4 (t 4) (t 10)⟩, ⟨(some 5), none, .mv (k (.int .i64 0))⟩])
  .ret)))
theorem fn44 : Fn Go.Proofs.Try.prog 44 11 [.inr (4, true, 4), .inl 5] c44 :=
  ⟨⟨_, _, Go.Proofs.Try.func44, rfl, by kernel_rfl, Go.Proofs.Try.ntmps44, by kernel_rfl, ⟨fun f => imp.contains f, false⟩, by kernel_rfl⟩⟩

def c45 : C :=
  (.seq (.reg [⟨(some 4), none, .mv (k (.int .i64 0))⟩, ⟨(some 5), none, .mv (k (.bool false))⟩])
  (.seq (.reg [⟨(some 7), none, .mv (t 0)⟩, ⟨(some 8), none, .mv (t 1)⟩, ⟨(some 9), none, .bin .add (t 7) (t 8)⟩, ⟨(some 6), none, .mv (t 9)⟩])
  (.seq (.reg [⟨(some 10), none, .mv (t 6)⟩, ⟨(some 11), none, .mv (t 0)⟩, ⟨(some 12), none, .bin .lss (t 11) (k (.int .i64 0))⟩, ⟨(some 13), none, .mv (t 1)⟩, ⟨(some 14), none, .bin .lss (t 13) (k (.int .i64 0))⟩, ⟨(some 15), none, .eq1 .bool true (t 12) (t 14)⟩, ⟨(some 16), none, .mv (t 15)⟩, ⟨(some 17), (some (16, false)), .mv (t 6)⟩, ⟨(some 18), (some (16, false)), .bin .lss (t 17) (k (.int .i64 0))⟩, ⟨(some 19), (some (16, false)), .mv (t 0)⟩, ⟨(some 20), (some (16, false)), .bin .lss (t 19) (k (.int .i64 0))⟩, ⟨(some 21), (some (16, false)), .eq1 .bool false (t 18) (t 20)⟩, ⟨(some 22), none, .pick (t 16) (k (.bool true)) (t 21)⟩, ⟨(some 4), none, .mv (t 10)⟩, ⟨(some 5), none, .mv (t 22)⟩])
  .ret)))
theorem fn45 : Fn Go.Proofs.Try.prog 45 23 [.inl 4, .inl 5] c45 :=
  ⟨⟨_, _, Go.Proofs.Try.func45, rfl, by kernel_rfl, Go.Proofs.Try.ntmps45, by kernel_rfl, ⟨fun f => imp.contains f, false⟩, by kernel_rfl⟩⟩

def c46 : C :=
  (.seq (.reg [⟨(some 4), none, .alloc [(.int .i64 0), (.int .i64 0), (.str []), .nils]⟩, ⟨(some 5), none, .mv (k (.int .i64 0))⟩])
  (.seq (.seq (.reg [⟨(some 6), none, .mv (t 1)⟩, ⟨(some 7), none, .un .not (t 6)⟩, ⟨(some 8), none, .mv (t 7)⟩, ⟨(some 9), (some (8, false)), .mv (t 0)⟩, ⟨(some 10), (some (8, false)), .bin .lss (t 9) (k (.int .i64 0))⟩, ⟨(some 11), none, .pick (t 8) (k (.bool true)) (t 10)⟩, ⟨(some 12), none, .mv (t 11)⟩, ⟨(some 13), (some (12, false)), .mv (t 0)⟩, ⟨(some 14), (some (12, false)), .bin .gtr (t 13) (k (.int .i64 1099511627776))⟩, ⟨(some 15), none, .pick (t 12) (k (.bool true)) (t 14)⟩])
  (.cond (t 15)
  (.seq (.reg [⟨(some 16), none, .build [(.int .i64 0), (.int .i64 0), (.str []), .nils] []⟩, ⟨none, none, .store 4 (t 4) (t 16)⟩, ⟨(some 5), none, .mv (k (.int .i64 7))⟩])
  .ret)
  .skip))
  (.seq (.reg [⟨(some 17), none, .mv (t 0)⟩, ⟨(some 18), none, .build [(.int .i64 0), (.int .i64 0), (.str []), .nils] [(0, 1, (k (.int .i64 4))), (1, 1, (t 17))]⟩, ⟨none, none, .store 4 (t 4) (t 18)⟩, ⟨(some 5), none, .mv (k (.int .i64 0))⟩])
  .ret)))
theorem fn46 : Fn Go.Proofs.Try.prog 46 19 [.inr (4, true, 4), .inl 5] c46 :=
  ⟨⟨_, _, Go.Proofs.Try.func46, rfl, by kernel_rfl, Go.Proofs.Try.ntmps46, by kernel_rfl, ⟨fun f => imp.contains f, false⟩, by kernel_rfl⟩⟩

end GP
