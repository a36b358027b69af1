import Derived.Test.YtnipbngimicldaaGpYe
import Derived.Test.YtnipbngimicldaaGpbi
import Derived.Test.YtnipbngimicldaaProg
namespace GP
open Go Go.Proofs
open Rd O
set_option maxRecDepth 100000
def c8 : C :=
  (.seq (.reg [⟨(some 0), none, .mv (k .nils)⟩])
  (.seq (.reg [⟨(some 1), none, .bsl 1 [(k (.str [100, 101, 110, 121, 95, 111, 118, 101, 114, 114, 105, 100, 101, 115])), (k (.str [112, 101, 114, 109, 105, 116, 95, 111, 118, 101, 114, 114, 105, 100, 101, 115])), (k (.str [102, 105, 114, 115, 116])), (k (.str [111, 110, 108, 121, 95, 111, 110, 101])), (k (.str [100, 101, 110, 121, 95, 117, 110, 108, 101, 115, 115, 95, 112, 101, 114, 109, 105, 116])), (k (.str [112, 101, 114, 109, 105, 116, 95, 117, 110, 108, 101, 115, 115, 95, 100, 101, 110, 121]))]⟩, ⟨(some 0), none, .mv (t 1)⟩])
  .ret))
theorem fn8 : Fn Go.Proofs.Try.prog 8 2 [.inl 0] c8 :=
  ⟨⟨_, _, Go.Proofs.Try.func8, rfl, by kernel_rfl, Go.Proofs.Try.ntmps8, by kernel_rfl, ⟨fun f => imp.contains f, false⟩, by kernel_rfl⟩⟩

def c20 : C :=
  (.seq (.reg [⟨(some 1), none, .box (t 0)⟩, ⟨(some 2), none, .mv (k (.bool false))⟩])
  (.seq (.seq (.reg [⟨(some 4), none, .faddr 5 (t 1)⟩, ⟨(some 5), none, .load false 1 (t 4)⟩, ⟨(some 6), none, .bin .eql (t 5) (k (.str [110, 111, 98, 111, 100, 121]))⟩, ⟨(some 7), none, .mv (t 6)⟩, ⟨(some 8), (some (7, true)), .faddr 6 (t 1)⟩, ⟨(some 9), (some (7, true)), .load false 1 (t 8)⟩, ⟨(some 10), (some (7, true)), .bin .eql (t 9) (k (.str [65]))⟩, ⟨(some 11), none, .pick (t 7) (t 10) (k (.bool false))⟩])
  (.cond (t 11)
  (.seq (.reg [⟨(some 2), none, .mv (k (.bool true))⟩])
  .ret)
  .skip))
  (.seq (.seq (.reg [⟨(some 3), none, .mv (k (.int .i64 0))⟩])
  (.block 0
  (.loop
  (.seq (.seq (.reg [⟨(some 12), none, .mv (t 3)⟩, ⟨(some 13), none, .faddr 7 (t 1)⟩, ⟨(some 14), none, .load false 1 (t 13)⟩, ⟨(some 15), none, .len (t 14)⟩, ⟨(some 16), none, .bin .lss (t 12) (t 15)⟩])
  (.cond (t 16)
  .skip
  (.exit 0)))
  (.seq (.block 1
  (.seq (.reg [⟨(some 19), none, .faddr 7 (t 1)⟩, ⟨(some 20), none, .load false 1 (t 19)⟩, ⟨(some 21), none, .mv (t 3)⟩, ⟨(some 22), none, .iaddr 8 (t 20) (t 21)⟩, ⟨(some 23), none, .load true 8 (t 22)⟩, ⟨(some 24), none, .pcall (k (.fn 20 [] [])) [(t 23)]⟩])
  (.cond (t 24)
  (.seq (.reg [⟨(some 2), none, .mv (k (.bool true))⟩])
  .ret)
  .skip)))
  (.reg [⟨(some 17), none, .mv (t 3)⟩, ⟨(some 18), none, .bin .add (t 17) (k (.int .i64 1))⟩, ⟨(some 3), none, .mv (t 18)⟩]))))))
  (.seq (.reg [⟨(some 2), none, .mv (k (.bool false))⟩])
  .ret))))
theorem fn20 : Fn Go.Proofs.Try.prog 20 25 [.inl 2] c20 :=
  ⟨⟨_, _, Go.Proofs.Try.func20, rfl, by kernel_rfl, Go.Proofs.Try.ntmps20, by kernel_rfl, ⟨fun f => imp.contains f, false⟩, by kernel_rfl⟩⟩

def c29 : C :=
  (.seq (.reg [⟨(some 4), none, .box (t 1)⟩, ⟨(some 5), none, .box (t 2)⟩, ⟨(some 6), none, .alloc [(.str []), (.int .i64 0), (.int .i64 0), (.str []), .nils, (.str []), (.str []), .nils]⟩])
  (.seq (.reg [⟨(some 7), none, .mv (t 0)⟩, ⟨(some 8), none, .load true 8 (t 4)⟩, ⟨(some 9), none, .load true 8 (t 5)⟩, ⟨(some 10), none, .bsl 8 [(t 8), (t 9)]⟩, ⟨(some 11), none, .build [(.str []), (.int .i64 0), (.int .i64 0), (.str []), .nils, (.str []), (.str []), .nils] [(0, 1, (t 7)), (7, 1, (t 10))]⟩, ⟨none, none, .store 8 (t 6) (t 11)⟩])
  .ret))
theorem fn29 : Fn Go.Proofs.Try.prog 29 12 [.inr (6, true, 8)] c29 :=
  ⟨⟨_, _, Go.Proofs.Try.func29, rfl, by kernel_rfl, Go.Proofs.Try.ntmps29, by kernel_rfl, ⟨fun f => imp.contains f, false⟩, by kernel_rfl⟩⟩

def c30 : C :=
  (.seq (.reg [⟨(some 3), none, .box (t 1)⟩, ⟨(some 4), none, .mv (k (.int .i64 0))⟩, ⟨(some 5), none, .mv (k (.int .i64 0))⟩])
  (.seq (.reg [⟨(some 12), none, .faddr 0 (t 3)⟩, ⟨(some 13), none, .load false 1 (t 12)⟩, ⟨(some 14), none, .pcall (k (.fn 46 [] [])) [(t 13)]⟩, ⟨(some 6), none, .mv (t 14)⟩])
  (.seq (.seq (.reg [⟨(some 15), none, .mv (t 6)⟩, ⟨(some 16), none, .bin .lss (t 15) (k (.int .i64 0))⟩, ⟨(some 17), none, .mv (t 16)⟩, ⟨(some 18), (some (17, false)), .faddr 7 (t 3)⟩, ⟨(some 19), (some (17, false)), .load false 1 (t 18)⟩, ⟨(some 20), (some (17, false)), .len (t 19)⟩, ⟨(some 21), (some (17, false)), .mv (t 6)⟩, ⟨(some 22), (some (17, false)), .bin .neq (t 20) (t 21)⟩, ⟨(some 23), none, .pick (t 17) (k (.bool true)) (t 22)⟩])
  (.cond (t 23)
  (.seq (.reg [⟨(some 4), none, .mv (k (.int .i64 0))⟩, ⟨(some 5), none, .mv (k (.int .i64 2))⟩])
  .ret)
  .skip))
  (.seq (.seq (.reg [⟨(some 24), none, .mv (t 6)⟩, ⟨(some 25), none, .bin .eql (t 24) (k (.int .i64 0))⟩])
  (.cond (t 25)
  (.seq (.reg [⟨(some 26), none, .mv (t 0)⟩, ⟨(some 27), none, .load true 8 (t 3)⟩, ⟨(some 28), none, .pcall (k (.fn 47 [] [])) [(t 26), (t 27)]⟩, ⟨(some 29), none, .ext 0 (t 28)⟩, ⟨(some 30), none, .ext 1 (t 28)⟩, ⟨(some 4), none, .mv (t 29)⟩, ⟨(some 5), none, .mv (t 30)⟩])
  .ret)
  .skip))
  (.seq (.reg [⟨(some 32), none, .mv (t 0)⟩, ⟨(some 33), none, .faddr 7 (t 3)⟩, ⟨(some 34), none, .load false 1 (t 33)⟩, ⟨(some 35), none, .iaddr 8 (t 34) (k (.int .i64 0))⟩, ⟨(some 36), none, .load true 8 (t 35)⟩, ⟨(some 37), none, .pcall (k (.fn 30 [] [])) [(t 32), (t 36)]⟩, ⟨(some 31), none, .mv (t 37)⟩, ⟨(some 38), none, .ext 0 (t 31)⟩, ⟨(some 39), none, .ext 1 (t 31)⟩, ⟨(some 7), none, .mv (t 38)⟩, ⟨(some 8), none, .mv (t 39)⟩])
  (.seq (.seq (.reg [⟨(some 40), none, .mv (t 8)⟩, ⟨(some 41), none, .bin .neq (t 40) (k (.int .i64 0))⟩])
  (.cond (t 41)
  (.seq (.reg [⟨(some 42), none, .mv (t 8)⟩, ⟨(some 4), none, .mv (k (.int .i64 0))⟩, ⟨(some 5), none, .mv (t 42)⟩])
  .ret)
  .skip))
  (.seq (.reg [⟨(some 43), none, .faddr 0 (t 3)⟩, ⟨(some 44), none, .load false 1 (t 43)⟩, ⟨(some 45), none, .mv (t 7)⟩, ⟨(some 46), none, .pcall (k (.fn 48 [] [])) [(t 44), (t 45)]⟩, ⟨(some 9), none, .mv (t 46)⟩])
  (.seq (.seq (.reg [⟨(some 47), none, .mv (t 6)⟩, ⟨(some 48), none, .bin .eql (t 47) (k (.int .i64 2))⟩])
  (.cond (t 48)
  (.seq (.reg [⟨(some 50), none, .mv (t 0)⟩, ⟨(some 51), none, .faddr 7 (t 3)⟩, ⟨(some 52), none, .load false 1 (t 51)⟩, ⟨(some 53), none, .iaddr 8 (t 52) (k (.int .i64 1))⟩, ⟨(some 54), none, .load true 8 (t 53)⟩, ⟨(some 55), none, .pcall (k (.fn 30 [] [])) [(t 50), (t 54)]⟩, ⟨(some 49), none, .mv (t 55)⟩, ⟨(some 56), none, .ext 0 (t 49)⟩, ⟨(some 57), none, .ext 1 (t 49)⟩, ⟨(some 10), none, .mv (t 56)⟩, ⟨(some 11), none, .mv (t 57)⟩])
  (.seq (.seq (.reg [⟨(some 58), none, .mv (t 11)⟩, ⟨(some 59), none, .bin .neq (t 58) (k (.int .i64 0))⟩])
  (.cond (t 59)
  (.seq (.reg [⟨(some 60), none, .mv (t 11)⟩, ⟨(some 4), none, .mv (k (.int .i64 0))⟩, ⟨(some 5), none, .mv (t 60)⟩])
  .ret)
  .skip))
  (.reg [⟨(some 61), none, .faddr 0 (t 3)⟩, ⟨(some 62), none, .load false 1 (t 61)⟩, ⟨(some 63), none, .mv (t 7)⟩, ⟨(some 64), none, .mv (t 10)⟩, ⟨(some 65), none, .pcall (k (.fn 49 [] [])) [(t 62), (t 63), (t 64)]⟩, ⟨(some 9), none, .mv (t 65)⟩])))
  .skip))
  (.seq (.seq (.reg [⟨(some 66), none, .mv (t 9)⟩, ⟨(some 67), none, .bin .eql (t 66) (k (.int .i64 0))⟩])
  (.cond (t 67)
  (.seq (.reg [⟨(some 4), none, .mv (k (.int .i64 0))⟩, ⟨(some 5), none, .mv (k (.int .i64 6))⟩])
  .ret)
  .skip))
  (.seq (.reg [⟨(some 68), none, .mv (t 9)⟩, ⟨(some 4), none, .mv (t 68)⟩, ⟨(some 5), none, .mv (k (.int .i64 0))⟩])
  .ret))))))))))
theorem fn30 : Fn Go.Proofs.Try.prog 30 69 [.inl 4, .inl 5] c30 :=
  ⟨⟨_, _, Go.Proofs.Try.func30, rfl, by kernel_rfl, Go.Proofs.Try.ntmps30, by kernel_rfl, ⟨fun f => imp.contains f, false⟩, by kernel_rfl⟩⟩

def c32 : C :=
  (.seq (.reg [⟨(some 2), none, .mv (k (.int .i64 0))⟩])
  (.seq (.seq (.reg [⟨(some 5), none, .mv (t 0)⟩, ⟨(some 6), none, .bin .eql (t 5) (k (.str [118, 97, 108, 117, 101]))⟩, ⟨(some 7), none, .mv (t 6)⟩, ⟨(some 8), (some (7, false)), .mv (t 0)⟩, ⟨(some 9), (some (7, false)), .bin .eql (t 8) (k (.str [110, 111, 119]))⟩, ⟨(some 10), none, .pick (t 7) (k (.bool true)) (t 9)⟩, ⟨(some 11), none, .mv (t 10)⟩, ⟨(some 12), (some (11, false)), .mv (t 0)⟩, ⟨(some 13), (some (11, false)), .bin .eql (t 12) (k (.str [97, 116, 116, 114]))⟩, ⟨(some 14), none, .pick (t 11) (k (.bool true)) (t 13)⟩, ⟨(some 15), none, .mv (t 14)⟩, ⟨(some 16), (some (15, false)), .mv (t 0)⟩, ⟨(some 17), (some (15, false)), .bin .eql (t 16) (k (.str [104, 97, 115]))⟩, ⟨(some 18), none, .pick (t 15) (k (.bool true)) (t 17)⟩, ⟨(some 19), none, .mv (t 18)⟩, ⟨(some 20), (some (19, false)), .mv (t 0)⟩, ⟨(some 21), (some (19, false)), .bin .eql (t 20) (k (.str [114, 111, 108, 101]))⟩, ⟨(some 22), none, .pick (t 19) (k (.bool true)) (t 21)⟩])
  (.cond (t 22)
  (.seq (.reg [⟨(some 2), none, .mv (k (.int .i64 0))⟩])
  .ret)
  .skip))
  (.seq (.reg [⟨(some 23), none, .pcall (k (.fn 34 [] [])) []⟩, ⟨(some 3), none, .mv (t 23)⟩])
  (.seq (.seq (.reg [⟨(some 4), none, .mv (k (.int .i64 0))⟩])
  (.block 0
  (.loop
  (.seq (.seq (.reg [⟨(some 24), none, .mv (t 4)⟩, ⟨(some 25), none, .mv (t 3)⟩, ⟨(some 26), none, .len (t 25)⟩, ⟨(some 27), none, .bin .lss (t 24) (t 26)⟩])
  (.cond (t 27)
  .skip
  (.exit 0)))
  (.seq (.block 1
  (.seq (.seq (.reg [⟨(some 30), none, .mv (t 3)⟩, ⟨(some 31), none, .mv (t 4)⟩, ⟨(some 32), none, .iaddr 4 (t 30) (t 31)⟩, ⟨(some 33), none, .faddr 0 (t 32)⟩, ⟨(some 34), none, .load false 1 (t 33)⟩, ⟨(some 35), none, .mv (t 0)⟩, ⟨(some 36), none, .bin .eql (t 34) (t 35)⟩, ⟨(some 37), none, .mv (t 36)⟩, ⟨(some 38), (some (37, true)), .mv (t 3)⟩, ⟨(some 39), (some (37, true)), .mv (t 4)⟩, ⟨(some 40), (some (37, true)), .iaddr 4 (t 38) (t 39)⟩, ⟨(some 41), (some (37, true)), .faddr 2 (t 40)⟩, ⟨(some 42), (some (37, true)), .load false 1 (t 41)⟩, ⟨(some 43), (some (37, true)), .bin .gtr (t 42) (k (.int .i64 0))⟩, ⟨(some 44), none, .pick (t 37) (t 43) (k (.bool false))⟩])
  (.cond (t 44)
  (.seq (.reg [⟨(some 2), none, .mv (k (.int .i64 2))⟩])
  .ret)
  .skip))
  (.seq (.reg [⟨(some 45), none, .mv (t 3)⟩, ⟨(some 46), none, .mv (t 4)⟩, ⟨(some 47), none, .iaddr 4 (t 45) (t 46)⟩, ⟨(some 48), none, .faddr 0 (t 47)⟩, ⟨(some 49), none, .load false 1 (t 48)⟩, ⟨(some 50), none, .mv (t 0)⟩, ⟨(some 51), none, .bin .eql (t 49) (t 50)⟩])
  (.cond (t 51)
  (.seq (.reg [⟨(some 2), none, .mv (k (.int .i64 1))⟩])
  .ret)
  .skip))))
  (.reg [⟨(some 28), none, .mv (t 4)⟩, ⟨(some 29), none, .bin .add (t 28) (k (.int .i64 1))⟩, ⟨(some 4), none, .mv (t 29)⟩]))))))
  (.seq (.reg [⟨(some 2), none, .mv (k (.int .i64 (-1)))⟩])
  .ret)))))
theorem fn32 : Fn Go.Proofs.Try.prog 32 52 [.inl 2] c32 :=
  ⟨⟨_, _, Go.Proofs.Try.func32, rfl, by kernel_rfl, Go.Proofs.Try.ntmps32, by kernel_rfl, ⟨fun f => imp.contains f, false⟩, by kernel_rfl⟩⟩

def c33 : C :=
  (.seq (.reg [⟨(some 3), none, .box (t 1)⟩, ⟨(some 4), none, .mv (k (.int .i64 0))⟩, ⟨(some 5), none, .mv (k (.int .i64 0))⟩])
  (.seq (.seq (.reg [⟨(some 8), none, .faddr 0 (t 3)⟩, ⟨(some 9), none, .load false 1 (t 8)⟩, ⟨(some 10), none, .bin .eql (t 9) (k (.str [110, 111, 119]))⟩])
  (.cond (t 10)
  (.seq (.reg [⟨(some 4), none, .mv (k (.int .i64 4))⟩, ⟨(some 5), none, .mv (k (.int .i64 0))⟩])
  .ret)
  .skip))
  (.seq (.seq (.reg [⟨(some 11), none, .faddr 0 (t 3)⟩, ⟨(some 12), none, .load false 1 (t 11)⟩, ⟨(some 13), none, .bin .eql (t 12) (k (.str [114, 111, 108, 101]))⟩])
  (.cond (t 13)
  (.seq (.reg [⟨(some 4), none, .mv (k (.int .i64 1))⟩, ⟨(some 5), none, .mv (k (.int .i64 0))⟩])
  .ret)
  .skip))
  (.seq (.seq (.reg [⟨(some 14), none, .faddr 0 (t 3)⟩, ⟨(some 15), none, .load false 1 (t 14)⟩, ⟨(some 16), none, .bin .eql (t 15) (k (.str [118, 97, 108, 117, 101]))⟩])
  (.cond (t 16)
  (.seq (.seq (.reg [⟨(some 17), none, .faddr 1 (t 3)⟩, ⟨(some 18), none, .load true 4 (t 17)⟩, ⟨(some 19), none, .pcall (k (.fn 18 [] [])) [(t 18)]⟩, ⟨(some 20), none, .un .not (t 19)⟩, ⟨(some 21), none, .mv (t 20)⟩, ⟨(some 22), (some (21, false)), .faddr 1 (t 3)⟩, ⟨(some 23), (some (21, false)), .faddr 0 (t 22)⟩, ⟨(some 24), (some (21, false)), .load false 1 (t 23)⟩, ⟨(some 25), (some (21, false)), .bin .eql (t 24) (k (.int .i64 0))⟩, ⟨(some 26), none, .pick (t 21) (k (.bool true)) (t 25)⟩, ⟨(some 27), none, .mv (t 26)⟩, ⟨(some 28), (some (27, false)), .faddr 1 (t 3)⟩, ⟨(some 29), (some (27, false)), .faddr 0 (t 28)⟩, ⟨(some 30), (some (27, false)), .load false 1 (t 29)⟩, ⟨(some 31), (some (27, false)), .bin .eql (t 30) (k (.int .i64 5))⟩, ⟨(some 32), (some (27, false)), .mv (t 31)⟩, ⟨(some 33), (some (32, true)), .faddr 1 (t 3)⟩, ⟨(some 34), (some (32, true)), .faddr 3 (t 33)⟩, ⟨(some 35), (some (32, true)), .load false 1 (t 34)⟩, ⟨(some 36), (some (32, true)), .len (t 35)⟩, ⟨(some 37), (some (32, true)), .bin .eql (t 36) (k (.int .i64 0))⟩, ⟨(some 38), (some (27, false)), .pick (t 32) (t 37) (k (.bool false))⟩, ⟨(some 39), none, .pick (t 27) (k (.bool true)) (t 38)⟩])
  (.cond (t 39)
  (.seq (.reg [⟨(some 4), none, .mv (k (.int .i64 0))⟩, ⟨(some 5), none, .mv (k (.int .i64 2))⟩])
  .ret)
  .skip))
  (.seq (.seq (.reg [⟨(some 40), none, .faddr 1 (t 3)⟩, ⟨(some 41), none, .faddr 0 (t 40)⟩, ⟨(some 42), none, .load false 1 (t 41)⟩, ⟨(some 43), none, .bin .eql (t 42) (k (.int .i64 5))⟩])
  (.cond (t 43)
  (.seq (.reg [⟨(some 44), none, .faddr 1 (t 3)⟩, ⟨(some 45), none, .faddr 3 (t 44)⟩, ⟨(some 46), none, .load false 1 (t 45)⟩, ⟨(some 47), none, .iaddr 4 (t 46) (k (.int .i64 0))⟩, ⟨(some 48), none, .faddr 0 (t 47)⟩, ⟨(some 49), none, .load false 1 (t 48)⟩, ⟨(some 50), none, .bin .add (k (.int .i64 10)) (t 49)⟩, ⟨(some 4), none, .mv (t 50)⟩, ⟨(some 5), none, .mv (k (.int .i64 0))⟩])
  .ret)
  .skip))
  (.seq (.reg [⟨(some 51), none, .faddr 1 (t 3)⟩, ⟨(some 52), none, .faddr 0 (t 51)⟩, ⟨(some 53), none, .load false 1 (t 52)⟩, ⟨(some 4), none, .mv (t 53)⟩, ⟨(some 5), none, .mv (k (.int .i64 0))⟩])
  .ret)))
  .skip))
  (.seq (.seq (.reg [⟨(some 6), none, .mv (k (.int .i64 0))⟩])
  (.block 0
  (.loop
  (.seq (.seq (.reg [⟨(some 54), none, .mv (t 6)⟩, ⟨(some 55), none, .mv (t 0)⟩, ⟨(some 56), none, .len (t 55)⟩, ⟨(some 57), none, .bin .lss (t 54) (t 56)⟩])
  (.cond (t 57)
  .skip
  (.exit 0)))
  (.seq (.block 1
  (.seq (.seq (.draw 0 [(⟨(some 60), none, .mv (t 0)⟩, []), (⟨(some 61), none, .mv (t 6)⟩, []), (⟨(some 62), none, .iaddr 4 (t 60) (t 61)⟩, []), (⟨(some 63), none, .faddr 0 (t 62)⟩, []), (⟨(some 64), none, .load false 1 (t 63)⟩, []), (⟨(some 65), none, .faddr 5 (t 3)⟩, []), (⟨(some 66), none, .load false 1 (t 65)⟩, []), (⟨(some 67), none, .bin .neq (t 64) (t 66)⟩, []), (⟨(some 68), none, .mv (t 67)⟩, []), (⟨(some 69), (some (68, false)), .mv (t 0)⟩, []), (⟨(some 70), (some (68, false)), .mv (t 6)⟩, []), (⟨(some 71), (some (68, false)), .iaddr 4 (t 69) (t 70)⟩, []), (⟨(some 72), (some (68, false)), .faddr 1 (t 71)⟩, []), (⟨(some 73), (some (68, false)), .load false 1 (t 72)⟩, []), (⟨(some 74), (some (68, false)), .faddr 6 (t 3)⟩, []), (⟨(some 75), (some (68, false)), .load false 1 (t 74)⟩, []), (⟨(some 76), (some (68, false)), .bin .neq (t 73) (t 75)⟩, []), (⟨(some 77), none, .pick (t 68) (k (.bool true)) (t 76)⟩, [])])
  (.cond (t 77)
  (.exit 1)
  .skip))
  (.seq (.seq (.reg [⟨(some 78), none, .faddr 0 (t 3)⟩, ⟨(some 79), none, .load false 1 (t 78)⟩, ⟨(some 80), none, .bin .eql (t 79) (k (.str [104, 97, 115]))⟩])
  (.cond (t 80)
  (.seq (.reg [⟨(some 81), none, .mv (t 0)⟩, ⟨(some 82), none, .mv (t 6)⟩, ⟨(some 83), none, .iaddr 4 (t 81) (t 82)⟩, ⟨(some 84), none, .load true 4 (t 83)⟩, ⟨(some 85), none, .pcall (k (.fn 50 [] [])) [(t 84)]⟩, ⟨(some 4), none, .mv (k (.int .i64 1))⟩, ⟨(some 5), none, .mv (t 85)⟩])
  .ret)
  .skip))
  (.seq (.reg [⟨(some 86), none, .mv (t 0)⟩, ⟨(some 87), none, .mv (t 6)⟩, ⟨(some 88), none, .iaddr 4 (t 86) (t 87)⟩, ⟨(some 89), none, .faddr 2 (t 88)⟩, ⟨(some 90), none, .load false 1 (t 89)⟩, ⟨(some 7), none, .mv (t 90)⟩])
  (.seq (.seq (.reg [⟨(some 91), none, .mv (t 0)⟩, ⟨(some 92), none, .mv (t 6)⟩, ⟨(some 93), none, .iaddr 4 (t 91) (t 92)⟩, ⟨(some 94), none, .faddr 3 (t 93)⟩, ⟨(some 95), none, .load false 1 (t 94)⟩])
  (.cond (t 95)
  (.reg [⟨(some 96), none, .mv (t 7)⟩, ⟨(some 97), none, .bin .add (t 96) (k (.int .i64 10))⟩, ⟨(some 7), none, .mv (t 97)⟩])
  .skip))
  (.seq (.seq (.reg [⟨(some 98), none, .mv (t 7)⟩, ⟨(some 99), none, .bin .eql (t 98) (k (.int .i64 0))⟩])
  (.cond (t 99)
  (.seq (.reg [⟨(some 4), none, .mv (k (.int .i64 0))⟩, ⟨(some 5), none, .mv (k (.int .i64 8))⟩])
  .ret)
  .skip))
  (.seq (.reg [⟨(some 100), none, .mv (t 7)⟩, ⟨(some 4), none, .mv (t 100)⟩, ⟨(some 5), none, .mv (k (.int .i64 0))⟩])
  .ret)))))))
  (.reg [⟨(some 58), none, .mv (t 6)⟩, ⟨(some 59), none, .bin .add (t 58) (k (.int .i64 1))⟩, ⟨(some 6), none, .mv (t 59)⟩]))))))
  (.seq (.reg [⟨(some 4), none, .mv (k (.int .i64 0))⟩, ⟨(some 5), none, .mv (k (.int .i64 8))⟩])
  .ret))))))
theorem fn33 : Fn Go.Proofs.Try.prog 33 101 [.inl 4, .inl 5] c33 :=
  ⟨⟨_, _, Go.Proofs.Try.func33, rfl, by kernel_rfl, Go.Proofs.Try.ntmps33, by kernel_rfl, ⟨fun f => imp.contains f, false⟩, by kernel_rfl⟩⟩

def c35 : C :=
  (.seq (.reg [⟨(some 2), none, .box (t 0)⟩, ⟨(some 3), none, .box (t 1)⟩, ⟨(some 4), none, .mv (k (.int .i64 0))⟩])
  (.seq (.block 0
  (.seq (.reg [⟨(some 6), none, .load true 3 (t 3)⟩, ⟨(some 7), none, .pcall (k (.fn 23 [] [])) [(t 6)]⟩, ⟨(some 8), none, .un .not (t 7)⟩, ⟨(some 5), none, .mv (t 8)⟩])
  (.cond (t 5)
  (.seq (.reg [⟨(some 4), none, .mv (k (.int .i64 1))⟩])
  .ret)
  (.seq (.reg [⟨(some 10), none, .load true 8 (t 2)⟩, ⟨(some 11), none, .pcall (k (.fn 51 [] [])) [(t 10)]⟩, ⟨(some 12), none, .un .not (t 11)⟩, ⟨(some 9), none, .mv (t 12)⟩])
  (.cond (t 9)
  (.seq (.reg [⟨(some 4), none, .mv (k (.int .i64 2))⟩])
  .ret)
  .skip)))))
  (.seq (.reg [⟨(some 4), none, .mv (k (.int .i64 0))⟩])
  .ret)))
theorem fn35 : Fn Go.Proofs.Try.prog 35 13 [.inl 4] c35 :=
  ⟨⟨_, _, Go.Proofs.Try.func35, rfl, by kernel_rfl, Go.Proofs.Try.ntmps35, by kernel_rfl, ⟨fun f => imp.contains f, false⟩, by kernel_rfl⟩⟩

def c36 : C :=
  (.seq (.reg [⟨(some 2), none, .box (t 0)⟩, ⟨(some 3), none, .box (t 1)⟩, ⟨(some 4), none, .alloc [(.int .i64 0), (.int .i64 0), (.str []), .nils]⟩, ⟨(some 5), none, .mv (k (.int .i64 0))⟩])
  (.seq (.block 0
  (.seq (.reg [⟨(some 10), none, .faddr 7 (t 3)⟩, ⟨(some 11), none, .load false 1 (t 10)⟩, ⟨(some 12), none, .len (t 11)⟩, ⟨(some 13), none, .bin .eql (t 12) (k (.int .i64 0))⟩, ⟨(some 9), none, .mv (t 13)⟩])
  (.cond (t 9)
  (.seq (.reg [⟨(some 14), none, .load true 3 (t 2)⟩, ⟨(some 15), none, .load true 8 (t 3)⟩, ⟨(some 16), none, .pcall (k (.fn 52 [] [])) [(t 14), (t 15)]⟩, ⟨(some 17), none, .ext 0 (t 16)⟩, ⟨(some 18), none, .ext 1 (t 16)⟩, ⟨none, none, .store 4 (t 4) (t 17)⟩, ⟨(some 5), none, .mv (t 18)⟩])
  .ret)
  (.seq (.reg [⟨(some 20), none, .faddr 0 (t 3)⟩, ⟨(some 21), none, .load false 1 (t 20)⟩, ⟨(some 22), none, .bin .eql (t 21) (k (.str [97, 110, 100]))⟩, ⟨(some 19), none, .mv (t 22)⟩])
  (.cond (t 19)
  (.seq (.reg [⟨(some 23), none, .load true 3 (t 2)⟩, ⟨(some 24), none, .load true 8 (t 3)⟩, ⟨(some 25), none, .pcall (k (.fn 53 [] [])) [(t 23), (t 24), (k (.bool false))]⟩, ⟨(some 26), none, .ext 0 (t 25)⟩, ⟨(some 27), none, .ext 1 (t 25)⟩, ⟨none, none, .store 4 (t 4) (t 26)⟩, ⟨(some 5), none, .mv (t 27)⟩])
  .ret)
  (.seq (.reg [⟨(some 29), none, .faddr 0 (t 3)⟩, ⟨(some 30), none, .load false 1 (t 29)⟩, ⟨(some 31), none, .bin .eql (t 30) (k (.str [111, 114]))⟩, ⟨(some 28), none, .mv (t 31)⟩])
  (.cond (t 28)
  (.seq (.reg [⟨(some 32), none, .load true 3 (t 2)⟩, ⟨(some 33), none, .load true 8 (t 3)⟩, ⟨(some 34), none, .pcall (k (.fn 53 [] [])) [(t 32), (t 33), (k (.bool true))]⟩, ⟨(some 35), none, .ext 0 (t 34)⟩, ⟨(some 36), none, .ext 1 (t 34)⟩, ⟨none, none, .store 4 (t 4) (t 35)⟩, ⟨(some 5), none, .mv (t 36)⟩])
  .ret)
  .skip)))))))
  (.seq (.draw 1 [(⟨(some 38), none, .load true 3 (t 2)⟩, []), (⟨(some 39), none, .faddr 7 (t 3)⟩, []), (⟨(some 40), none, .load false 1 (t 39)⟩, []), (⟨(some 41), none, .iaddr 8 (t 40) (k (.int .i64 0))⟩, []), (⟨(some 42), none, .load true 8 (t 41)⟩, []), (⟨(some 43), none, .pcall (k (.fn 36 [] [])) [(t 38), (t 42)]⟩, []), (⟨(some 37), none, .mv (t 43)⟩, []), (⟨(some 44), none, .ext 0 (t 37)⟩, []), (⟨(some 45), none, .ext 1 (t 37)⟩, []), (⟨(some 6), none, .rawAt 1 [(.int .i64 0), (.int .i64 0), (.str []), .nils]⟩, []), (⟨none, none, .fillAt 1 4 (t 6) (t 44)⟩, []), (⟨(some 7), none, .mv (t 45)⟩, [])])
  (.seq (.seq (.reg [⟨(some 46), none, .mv (t 7)⟩, ⟨(some 47), none, .bin .neq (t 46) (k (.int .i64 0))⟩])
  (.cond (t 47)
  (.seq (.reg [⟨(some 48), none, .build [(.int .i64 0), (.int .i64 0), (.str []), .nils] []⟩, ⟨(some 49), none, .mv (t 7)⟩, ⟨none, none, .store 4 (t 4) (t 48)⟩, ⟨(some 5), none, .mv (t 49)⟩])
  .ret)
  .skip))
  (.seq (.seq (.reg [⟨(some 50), none, .faddr 7 (t 3)⟩, ⟨(some 51), none, .load false 1 (t 50)⟩, ⟨(some 52), none, .len (t 51)⟩, ⟨(some 53), none, .bin .eql (t 52) (k (.int .i64 1))⟩])
  (.cond (t 53)
  (.seq (.reg [⟨(some 54), none, .faddr 0 (t 3)⟩, ⟨(some 55), none, .load false 1 (t 54)⟩, ⟨(some 56), none, .load true 4 (t 6)⟩, ⟨(some 57), none, .pcall (k (.fn 54 [] [])) [(t 55), (t 56)]⟩, ⟨(some 58), none, .ext 0 (t 57)⟩, ⟨(some 59), none, .ext 1 (t 57)⟩, ⟨none, none, .store 4 (t 4) (t 58)⟩, ⟨(some 5), none, .mv (t 59)⟩])
  .ret)
  .skip))
  (.seq (.draw 1 [(⟨(some 61), none, .load true 3 (t 2)⟩, []), (⟨(some 62), none, .faddr 7 (t 3)⟩, []), (⟨(some 63), none, .load false 1 (t 62)⟩, []), (⟨(some 64), none, .iaddr 8 (t 63) (k (.int .i64 1))⟩, []), (⟨(some 65), none, .load true 8 (t 64)⟩, []), (⟨(some 66), none, .pcall (k (.fn 36 [] [])) [(t 61), (t 65)]⟩, []), (⟨(some 60), none, .mv (t 66)⟩, []), (⟨(some 67), none, .ext 0 (t 60)⟩, []), (⟨(some 68), none, .ext 1 (t 60)⟩, []), (⟨(some 8), none, .rawAt 1 [(.int .i64 0), (.int .i64 0), (.str []), .nils]⟩, []), (⟨none, none, .fillAt 1 4 (t 8) (t 67)⟩, []), (⟨(some 7), none, .mv (t 68)⟩, [])])
  (.seq (.seq (.reg [⟨(some 69), none, .mv (t 7)⟩, ⟨(some 70), none, .bin .neq (t 69) (k (.int .i64 0))⟩])
  (.cond (t 70)
  (.seq (.reg [⟨(some 71), none, .build [(.int .i64 0), (.int .i64 0), (.str []), .nils] []⟩, ⟨(some 72), none, .mv (t 7)⟩, ⟨none, none, .store 4 (t 4) (t 71)⟩, ⟨(some 5), none, .mv (t 72)⟩])
  .ret)
  .skip))
  (.seq (.reg [⟨(some 73), none, .faddr 0 (t 3)⟩, ⟨(some 74), none, .load false 1 (t 73)⟩, ⟨(some 75), none, .load true 4 (t 6)⟩, ⟨(some 76), none, .load true 4 (t 8)⟩, ⟨(some 77), none, .pcall (k (.fn 55 [] [])) [(t 74), (t 75), (t 76)]⟩, ⟨(some 78), none, .ext 0 (t 77)⟩, ⟨(some 79), none, .ext 1 (t 77)⟩, ⟨none, none, .store 4 (t 4) (t 78)⟩, ⟨(some 5), none, .mv (t 79)⟩])
  .ret))))))))
theorem fn36 : Fn Go.Proofs.Try.prog 36 80 [.inr (4, true, 4), .inl 5] c36 :=
  ⟨⟨_, _, Go.Proofs.Try.func36, rfl, by kernel_rfl, Go.Proofs.Try.ntmps36, by kernel_rfl, ⟨fun f => imp.contains f, false⟩, by kernel_rfl⟩⟩

def c38 : C :=
  (.seq (.reg [⟨(some 2), none, .box (t 0)⟩, ⟨(some 3), none, .box (t 1)⟩, ⟨(some 4), none, .mv (k (.int .i64 0))⟩])
  (.seq (.seq (.reg [⟨(some 5), none, .faddr 0 (t 2)⟩, ⟨(some 6), none, .load false 1 (t 5)⟩, ⟨(some 7), none, .faddr 0 (t 3)⟩, ⟨(some 8), none, .load false 1 (t 7)⟩, ⟨(some 9), none, .bin .neq (t 6) (t 8)⟩])
  (.cond (t 9)
  (.seq (.reg [⟨(some 10), none, .faddr 0 (t 2)⟩, ⟨(some 11), none, .load false 1 (t 10)⟩, ⟨(some 12), none, .faddr 0 (t 3)⟩, ⟨(some 13), none, .load false 1 (t 12)⟩, ⟨(some 14), none, .pcall (k (.fn 56 [] [])) [(t 11), (t 13)]⟩, ⟨(some 4), none, .mv (t 14)⟩])
  .ret)
  .skip))
  (.seq (.seq (.reg [⟨(some 15), none, .faddr 0 (t 2)⟩, ⟨(some 16), none, .load false 1 (t 15)⟩, ⟨(some 17), none, .bin .eql (t 16) (k (.int .i64 3))⟩])
  (.cond (t 17)
  (.seq (.reg [⟨(some 18), none, .faddr 2 (t 2)⟩, ⟨(some 19), none, .load false 1 (t 18)⟩, ⟨(some 20), none, .faddr 2 (t 3)⟩, ⟨(some 21), none, .load false 1 (t 20)⟩, ⟨(some 22), none, .pcall (k (.fn 57 [] [])) [(t 19), (t 21)]⟩, ⟨(some 4), none, .mv (t 22)⟩])
  .ret)
  .skip))
  (.seq (.reg [⟨(some 23), none, .faddr 1 (t 2)⟩, ⟨(some 24), none, .load false 1 (t 23)⟩, ⟨(some 25), none, .faddr 1 (t 3)⟩, ⟨(some 26), none, .load false 1 (t 25)⟩, ⟨(some 27), none, .pcall (k (.fn 56 [] [])) [(t 24), (t 26)]⟩, ⟨(some 4), none, .mv (t 27)⟩])
  .ret))))
theorem fn38 : Fn Go.Proofs.Try.prog 38 28 [.inl 4] c38 :=
  ⟨⟨_, _, Go.Proofs.Try.func38, rfl, by kernel_rfl, Go.Proofs.Try.ntmps38, by kernel_rfl, ⟨fun f => imp.contains f, false⟩, by kernel_rfl⟩⟩

def c64 : C :=
  (.seq (.reg [⟨(some 4), none, .alloc [(.int .i64 0), (.int .u64 0)]⟩])
  (.seq (.reg [⟨(some 9), none, .mv (t 1)⟩, ⟨(some 10), none, .bin .lss (t 9) (k (.int .i64 0))⟩, ⟨(some 5), none, .mv (t 10)⟩])
  (.seq (.reg [⟨(some 11), none, .mv (t 1)⟩, ⟨(some 12), none, .conv .u64 (t 11)⟩, ⟨(some 6), none, .mv (t 12)⟩])
  (.seq (.seq (.reg [⟨(some 13), none, .mv (t 5)⟩])
  (.cond (t 13)
  (.reg [⟨(some 14), none, .mv (t 6)⟩, ⟨(some 15), none, .un .xor (t 14)⟩, ⟨(some 16), none, .bin .add (t 15) (k (.int .u64 1))⟩, ⟨(some 6), none, .mv (t 16)⟩])
  .skip))
  (.seq (.reg [⟨(some 17), none, .build [(.int .i64 0), (.int .u64 0)] []⟩, ⟨(some 18), none, .mv (t 0)⟩, ⟨(some 19), none, .pcall (k (.fn 60 [] [])) [(t 18)]⟩, ⟨(some 7), none, .alloc [(.int .i64 0), (.int .u64 0)]⟩, ⟨(some 8), none, .alloc [(.int .i64 0), (.int .u64 0)]⟩, ⟨none, none, .store 2 (t 7) (t 17)⟩, ⟨none, none, .store 2 (t 8) (t 19)⟩])
  (.seq (.block 0
  (.loop
  (.seq (.seq (.reg [⟨(some 20), none, .mv (t 6)⟩, ⟨(some 21), none, .bin .gtr (t 20) (k (.int .u64 0))⟩])
  (.cond (t 21)
  .skip
  (.exit 0)))
  (.block 1
  (.seq (.seq (.reg [⟨(some 22), none, .mv (t 6)⟩, ⟨(some 23), none, .bin .rem (t 22) (k (.int .u64 2))⟩, ⟨(some 24), none, .bin .eql (t 23) (k (.int .u64 1))⟩])
  (.cond (t 24)
  (.reg [⟨(some 25), none, .load true 2 (t 7)⟩, ⟨(some 26), none, .load true 2 (t 8)⟩, ⟨(some 27), none, .pcall (k (.fn 62 [] [])) [(t 25), (t 26)]⟩, ⟨none, none, .store 2 (t 7) (t 27)⟩])
  .skip))
  (.seq (.reg [⟨(some 28), none, .load true 2 (t 8)⟩, ⟨(some 29), none, .load true 2 (t 8)⟩, ⟨(some 30), none, .pcall (k (.fn 62 [] [])) [(t 28), (t 29)]⟩, ⟨none, none, .store 2 (t 8) (t 30)⟩])
  (.reg [⟨(some 31), none, .mv (t 6)⟩, ⟨(some 32), none, .bin .quo (t 31) (k (.int .u64 2))⟩, ⟨(some 6), none, .mv (t 32)⟩])))))))
  (.seq (.seq (.reg [⟨(some 33), none, .mv (t 5)⟩])
  (.cond (t 33)
  (.seq (.reg [⟨(some 34), none, .load true 2 (t 7)⟩, ⟨(some 35), none, .pcall (k (.fn 61 [] [])) [(t 34)]⟩, ⟨none, none, .store 2 (t 4) (t 35)⟩])
  .ret)
  .skip))
  (.seq (.reg [⟨(some 36), none, .load true 2 (t 7)⟩, ⟨none, none, .store 2 (t 4) (t 36)⟩])
  .ret))))))))
theorem fn64 : Fn Go.Proofs.Try.prog 64 37 [.inr (4, true, 2)] c64 :=
  ⟨⟨_, _, Go.Proofs.Try.func64, rfl, by kernel_rfl, Go.Proofs.Try.ntmps64, by kernel_rfl, ⟨fun f => imp.contains f, false⟩, by kernel_rfl⟩⟩

def c67 : C :=
  (.seq (.reg [⟨(some 1), none, .box (t 0)⟩, ⟨(some 2), none, .mv (k (.int .i64 0))⟩])
  (.seq (.block 0
  (.seq (.reg [⟨(some 4), none, .load true 4 (t 1)⟩, ⟨(some 5), none, .pcall (k (.fn 40 [] [])) [(t 4)]⟩, ⟨(some 6), none, .un .not (t 5)⟩, ⟨(some 7), none, .mv (t 6)⟩, ⟨(some 8), (some (7, false)), .faddr 0 (t 1)⟩, ⟨(some 9), (some (7, false)), .load false 1 (t 8)⟩, ⟨(some 10), (some (7, false)), .bin .eql (t 9) (k (.int .i64 0))⟩, ⟨(some 11), none, .pick (t 7) (k (.bool true)) (t 10)⟩, ⟨(some 12), none, .mv (t 11)⟩, ⟨(some 13), (some (12, false)), .faddr 0 (t 1)⟩, ⟨(some 14), (some (12, false)), .load false 1 (t 13)⟩, ⟨(some 15), (some (12, false)), .bin .eql (t 14) (k (.int .i64 5))⟩, ⟨(some 16), (some (12, false)), .mv (t 15)⟩, ⟨(some 17), (some (16, true)), .faddr 3 (t 1)⟩, ⟨(some 18), (some (16, true)), .load false 1 (t 17)⟩, ⟨(some 19), (some (16, true)), .len (t 18)⟩, ⟨(some 20), (some (16, true)), .bin .eql (t 19) (k (.int .i64 0))⟩, ⟨(some 21), (some (12, false)), .pick (t 16) (t 20) (k (.bool false))⟩, ⟨(some 22), none, .pick (t 12) (k (.bool true)) (t 21)⟩, ⟨(some 3), none, .mv (t 22)⟩])
  (.cond (t 3)
  (.seq (.reg [⟨(some 2), none, .mv (k (.int .i64 0))⟩])
  .ret)
  (.seq (.reg [⟨(some 24), none, .faddr 0 (t 1)⟩, ⟨(some 25), none, .load false 1 (t 24)⟩, ⟨(some 26), none, .bin .eql (t 25) (k (.int .i64 5))⟩, ⟨(some 23), none, .mv (t 26)⟩])
  (.cond (t 23)
  (.seq (.reg [⟨(some 27), none, .faddr 3 (t 1)⟩, ⟨(some 28), none, .load false 1 (t 27)⟩, ⟨(some 29), none, .iaddr 4 (t 28) (k (.int .i64 0))⟩, ⟨(some 30), none, .faddr 0 (t 29)⟩, ⟨(some 31), none, .load false 1 (t 30)⟩, ⟨(some 32), none, .bin .add (k (.int .i64 10)) (t 31)⟩, ⟨(some 2), none, .mv (t 32)⟩])
  .ret)
  .skip)))))
  (.seq (.reg [⟨(some 33), none, .faddr 0 (t 1)⟩, ⟨(some 34), none, .load false 1 (t 33)⟩, ⟨(some 2), none, .mv (t 34)⟩])
  .ret)))
theorem fn67 : Fn Go.Proofs.Try.prog 67 35 [.inl 2] c67 :=
  ⟨⟨_, _, Go.Proofs.Try.func67, rfl, by kernel_rfl, Go.Proofs.Try.ntmps67, by kernel_rfl, ⟨fun f => imp.contains f, false⟩, by kernel_rfl⟩⟩

def c74 : C :=
  (.seq (.reg [⟨(some 3), none, .box (t 0)⟩, ⟨(some 4), none, .box (t 1)⟩, ⟨(some 5), none, .box (t 2)⟩, ⟨(some 6), none, .alloc [(.int .i64 0), (.int .i64 0), (.str []), .nils]⟩, ⟨(some 7), none, .mv (k (.bool false))⟩])
  (.seq (.reg [⟨(some 9), none, .faddr 2 (t 3)⟩, ⟨(some 10), none, .load false 1 (t 9)⟩, ⟨(some 11), none, .mkfn 90 [] [(t 4), (t 5)]⟩, ⟨(some 12), none, .pcall (k (.fn 89 [] [])) [(t 10), (t 11)]⟩, ⟨(some 8), none, .mv (t 12)⟩])
  (.seq (.seq (.reg [⟨(some 13), none, .mv (t 8)⟩, ⟨(some 14), none, .bin .lss (t 13) (k (.int .i64 0))⟩])
  (.cond (t 14)
  (.seq (.reg [⟨(some 15), none, .build [(.int .i64 0), (.int .i64 0), (.str []), .nils] []⟩, ⟨none, none, .store 4 (t 6) (t 15)⟩, ⟨(some 7), none, .mv (k (.bool false))⟩])
  .ret)
  .skip))
  (.seq (.reg [⟨(some 16), none, .faddr 2 (t 3)⟩, ⟨(some 17), none, .load false 1 (t 16)⟩, ⟨(some 18), none, .mv (t 8)⟩, ⟨(some 19), none, .iaddr 6 (t 17) (t 18)⟩, ⟨(some 20), none, .faddr 2 (t 19)⟩, ⟨(some 21), none, .load true 4 (t 20)⟩, ⟨none, none, .store 4 (t 6) (t 21)⟩, ⟨(some 7), none, .mv (k (.bool true))⟩])
  .ret))))
theorem fn74 : Fn Go.Proofs.Try.prog 74 22 [.inr (6, true, 4), .inl 7] c74 :=
  ⟨⟨_, _, Go.Proofs.Try.func74, rfl, by kernel_rfl, Go.Proofs.Try.ntmps74, by kernel_rfl, ⟨fun f => imp.contains f, false⟩, by kernel_rfl⟩⟩

def c80 : C :=
  (.seq (.reg [⟨(some 2), none, .box (t 0)⟩, ⟨(some 3), none, .box (t 1)⟩, ⟨(some 4), none, .mv (k (.bool false))⟩, ⟨(some 5), none, .mv (k (.int .i64 0))⟩])
  (.seq (.block 0
  (.seq (.reg [⟨(some 7), none, .load true 4 (t 2)⟩, ⟨(some 8), none, .pcall (k (.fn 40 [] [])) [(t 7)]⟩, ⟨(some 9), none, .un .not (t 8)⟩, ⟨(some 10), none, .mv (t 9)⟩, ⟨(some 11), (some (10, false)), .load true 4 (t 3)⟩, ⟨(some 12), (some (10, false)), .pcall (k (.fn 40 [] [])) [(t 11)]⟩, ⟨(some 13), (some (10, false)), .un .not (t 12)⟩, ⟨(some 14), none, .pick (t 10) (k (.bool true)) (t 13)⟩, ⟨(some 6), none, .mv (t 14)⟩])
  (.cond (t 6)
  (.seq (.reg [⟨(some 4), none, .mv (k (.bool false))⟩, ⟨(some 5), none, .mv (k (.int .i64 1))⟩])
  .ret)
  (.seq (.reg [⟨(some 16), none, .faddr 0 (t 3)⟩, ⟨(some 17), none, .load false 1 (t 16)⟩, ⟨(some 18), none, .bin .neq (t 17) (k (.int .i64 5))⟩, ⟨(some 19), none, .mv (t 18)⟩, ⟨(some 20), (some (19, false)), .faddr 0 (t 2)⟩, ⟨(some 21), (some (19, false)), .load false 1 (t 20)⟩, ⟨(some 22), (some (19, false)), .bin .eql (t 21) (k (.int .i64 0))⟩, ⟨(some 23), none, .pick (t 19) (k (.bool true)) (t 22)⟩, ⟨(some 24), none, .mv (t 23)⟩, ⟨(some 25), (some (24, false)), .faddr 0 (t 2)⟩, ⟨(some 26), (some (24, false)), .load false 1 (t 25)⟩, ⟨(some 27), (some (24, false)), .bin .eql (t 26) (k (.int .i64 5))⟩, ⟨(some 28), none, .pick (t 24) (k (.bool true)) (t 27)⟩, ⟨(some 15), none, .mv (t 28)⟩])
  (.cond (t 15)
  (.seq (.reg [⟨(some 4), none, .mv (k (.bool false))⟩, ⟨(some 5), none, .mv (k (.int .i64 6))⟩])
  .ret)
  (.seq (.draw 0 [(⟨(some 30), none, .faddr 3 (t 3)⟩, []), (⟨(some 31), none, .load false 1 (t 30)⟩, []), (⟨(some 32), none, .len (t 31)⟩, []), (⟨(some 33), none, .bin .gtr (t 32) (k (.int .i64 0))⟩, []), (⟨(some 34), none, .mv (t 33)⟩, []), (⟨(some 35), (some (34, true)), .faddr 3 (t 3)⟩, []), (⟨(some 36), (some (34, true)), .load false 1 (t 35)⟩, []), (⟨(some 37), (some (34, true)), .iaddr 4 (t 36) (k (.int .i64 0))⟩, []), (⟨(some 38), (some (34, true)), .faddr 0 (t 37)⟩, []), (⟨(some 39), (some (34, true)), .load false 1 (t 38)⟩, []), (⟨(some 40), (some (34, true)), .faddr 0 (t 2)⟩, []), (⟨(some 41), (some (34, true)), .load false 1 (t 40)⟩, []), (⟨(some 42), (some (34, true)), .bin .neq (t 39) (t 41)⟩, []), (⟨(some 43), none, .pick (t 34) (t 42) (k (.bool false))⟩, []), (⟨(some 29), none, .mv (t 43)⟩, [])])
  (.cond (t 29)
  (.seq (.reg [⟨(some 4), none, .mv (k (.bool false))⟩, ⟨(some 5), none, .mv (k (.int .i64 6))⟩])
  .ret)
  .skip)))))))
  (.seq (.reg [⟨(some 44), none, .faddr 3 (t 3)⟩, ⟨(some 45), none, .load false 1 (t 44)⟩, ⟨(some 46), none, .mkfn 98 [] [(t 2)]⟩, ⟨(some 47), none, .pcall (k (.fn 97 [] [])) [(t 45), (t 46)]⟩, ⟨(some 4), none, .mv (t 47)⟩, ⟨(some 5), none, .mv (k (.int .i64 0))⟩])
  .ret)))
theorem fn80 : Fn Go.Proofs.Try.prog 80 48 [.inl 4, .inl 5] c80 :=
  ⟨⟨_, _, Go.Proofs.Try.func80, rfl, by kernel_rfl, Go.Proofs.Try.ntmps80, by kernel_rfl, ⟨fun f => imp.contains f, false⟩, by kernel_rfl⟩⟩

def c81 : C :=
  (.seq (.reg [⟨(some 4), none, .box (t 1)⟩, ⟨(some 5), none, .box (t 2)⟩, ⟨(some 6), none, .mv (k (.bool false))⟩, ⟨(some 7), none, .mv (k (.int .i64 0))⟩])
  (.seq (.seq (.reg [⟨(some 10), none, .load true 4 (t 4)⟩, ⟨(some 11), none, .pcall (k (.fn 40 [] [])) [(t 10)]⟩, ⟨(some 12), none, .un .not (t 11)⟩, ⟨(some 13), none, .mv (t 12)⟩, ⟨(some 14), (some (13, false)), .load true 4 (t 5)⟩, ⟨(some 15), (some (13, false)), .pcall (k (.fn 40 [] [])) [(t 14)]⟩, ⟨(some 16), (some (13, false)), .un .not (t 15)⟩, ⟨(some 17), none, .pick (t 13) (k (.bool true)) (t 16)⟩, ⟨(some 18), none, .mv (t 17)⟩, ⟨(some 19), (some (18, false)), .bsl 1 [(k (.str [61, 61])), (k (.str [33, 61])), (k (.str [60])), (k (.str [60, 61])), (k (.str [62])), (k (.str [62, 61]))]⟩, ⟨(some 20), (some (18, false)), .mv (t 0)⟩, ⟨(some 21), (some (18, false)), .pcall (k (.fn 73 [] [])) [(t 19), (t 20)]⟩, ⟨(some 22), (some (18, false)), .un .not (t 21)⟩, ⟨(some 23), none, .pick (t 18) (k (.bool true)) (t 22)⟩])
  (.cond (t 23)
  (.seq (.reg [⟨(some 6), none, .mv (k (.bool false))⟩, ⟨(some 7), none, .mv (k (.int .i64 1))⟩])
  .ret)
  .skip))
  (.seq (.reg [⟨(some 24), none, .faddr 0 (t 4)⟩, ⟨(some 25), none, .load false 1 (t 24)⟩, ⟨(some 26), none, .bin .eql (t 25) (k (.int .i64 1))⟩, ⟨(some 27), none, .mv (t 26)⟩, ⟨(some 28), (some (27, false)), .faddr 0 (t 4)⟩, ⟨(some 29), (some (27, false)), .load false 1 (t 28)⟩, ⟨(some 30), (some (27, false)), .bin .eql (t 29) (k (.int .i64 5))⟩, ⟨(some 31), none, .pick (t 27) (k (.bool true)) (t 30)⟩, ⟨(some 8), none, .mv (t 31)⟩])
  (.seq (.seq (.reg [⟨(some 32), none, .faddr 0 (t 4)⟩, ⟨(some 33), none, .load false 1 (t 32)⟩, ⟨(some 34), none, .bin .eql (t 33) (k (.int .i64 0))⟩, ⟨(some 35), none, .mv (t 34)⟩, ⟨(some 36), (some (35, false)), .faddr 0 (t 4)⟩, ⟨(some 37), (some (35, false)), .load false 1 (t 36)⟩, ⟨(some 38), (some (35, false)), .faddr 0 (t 5)⟩, ⟨(some 39), (some (35, false)), .load false 1 (t 38)⟩, ⟨(some 40), (some (35, false)), .bin .neq (t 37) (t 39)⟩, ⟨(some 41), none, .pick (t 35) (k (.bool true)) (t 40)⟩, ⟨(some 42), none, .mv (t 41)⟩, ⟨(some 43), (some (42, false)), .mv (t 8)⟩, ⟨(some 44), (some (42, false)), .mv (t 43)⟩, ⟨(some 45), (some (44, true)), .mv (t 0)⟩, ⟨(some 46), (some (44, true)), .bin .neq (t 45) (k (.str [61, 61]))⟩, ⟨(some 47), (some (42, false)), .pick (t 44) (t 46) (k (.bool false))⟩, ⟨(some 48), (some (42, false)), .mv (t 47)⟩, ⟨(some 49), (some (48, true)), .mv (t 0)⟩, ⟨(some 50), (some (48, true)), .bin .neq (t 49) (k (.str [33, 61]))⟩, ⟨(some 51), (some (42, false)), .pick (t 48) (t 50) (k (.bool false))⟩, ⟨(some 52), none, .pick (t 42) (k (.bool true)) (t 51)⟩])
  (.cond (t 52)
  (.seq (.reg [⟨(some 6), none, .mv (k (.bool false))⟩, ⟨(some 7), none, .mv (k (.int .i64 6))⟩])
  .ret)
  .skip))
  (.seq (.reg [⟨(some 53), none, .load true 4 (t 4)⟩, ⟨(some 54), none, .load true 4 (t 5)⟩, ⟨(some 55), none, .pcall (k (.fn 59 [] [])) [(t 53), (t 54)]⟩, ⟨(some 9), none, .mv (t 55)⟩])
  (.seq (.seq (.reg [⟨(some 56), none, .mv (t 0)⟩])
  (.block 0
  (.seq (.reg [⟨(some 58), none, .bin .eql (t 56) (k (.str [61, 61]))⟩, ⟨(some 57), none, .mv (t 58)⟩])
  (.cond (t 57)
  (.seq (.reg [⟨(some 59), none, .mv (t 9)⟩, ⟨(some 60), none, .bin .eql (t 59) (k (.int .i64 0))⟩, ⟨(some 6), none, .mv (t 60)⟩, ⟨(some 7), none, .mv (k (.int .i64 0))⟩])
  .ret)
  (.seq (.reg [⟨(some 62), none, .bin .eql (t 56) (k (.str [33, 61]))⟩, ⟨(some 61), none, .mv (t 62)⟩])
  (.cond (t 61)
  (.seq (.reg [⟨(some 63), none, .mv (t 9)⟩, ⟨(some 64), none, .bin .neq (t 63) (k (.int .i64 0))⟩, ⟨(some 6), none, .mv (t 64)⟩, ⟨(some 7), none, .mv (k (.int .i64 0))⟩])
  .ret)
  (.seq (.reg [⟨(some 66), none, .bin .eql (t 56) (k (.str [60]))⟩, ⟨(some 65), none, .mv (t 66)⟩])
  (.cond (t 65)
  (.seq (.reg [⟨(some 67), none, .mv (t 9)⟩, ⟨(some 68), none, .bin .lss (t 67) (k (.int .i64 0))⟩, ⟨(some 6), none, .mv (t 68)⟩, ⟨(some 7), none, .mv (k (.int .i64 0))⟩])
  .ret)
  (.seq (.reg [⟨(some 70), none, .bin .eql (t 56) (k (.str [60, 61]))⟩, ⟨(some 69), none, .mv (t 70)⟩])
  (.cond (t 69)
  (.seq (.reg [⟨(some 71), none, .mv (t 9)⟩, ⟨(some 72), none, .bin .leq (t 71) (k (.int .i64 0))⟩, ⟨(some 6), none, .mv (t 72)⟩, ⟨(some 7), none, .mv (k (.int .i64 0))⟩])
  .ret)
  (.seq (.reg [⟨(some 74), none, .bin .eql (t 56) (k (.str [62]))⟩, ⟨(some 73), none, .mv (t 74)⟩])
  (.cond (t 73)
  (.seq (.reg [⟨(some 75), none, .mv (t 9)⟩, ⟨(some 76), none, .bin .gtr (t 75) (k (.int .i64 0))⟩, ⟨(some 6), none, .mv (t 76)⟩, ⟨(some 7), none, .mv (k (.int .i64 0))⟩])
  .ret)
  .skip))))))))))))
  (.seq (.reg [⟨(some 77), none, .mv (t 9)⟩, ⟨(some 78), none, .bin .geq (t 77) (k (.int .i64 0))⟩, ⟨(some 6), none, .mv (t 78)⟩, ⟨(some 7), none, .mv (k (.int .i64 0))⟩])
  .ret)))))))
theorem fn81 : Fn Go.Proofs.Try.prog 81 79 [.inl 6, .inl 7] c81 :=
  ⟨⟨_, _, Go.Proofs.Try.func81, rfl, by kernel_rfl, Go.Proofs.Try.ntmps81, by kernel_rfl, ⟨fun f => imp.contains f, false⟩, by kernel_rfl⟩⟩

def c85 : C :=
  (.seq (.reg [⟨(some 4), none, .mv (k (.int .i64 0))⟩])
  (.seq (.reg [⟨(some 5), none, .mv (t 0)⟩, ⟨(some 6), none, .mv (t 1)⟩, ⟨(some 7), none, .pcall (k (.fn 101 [] [])) [(t 5), (t 6)]⟩, ⟨(some 4), none, .mv (t 7)⟩])
  .ret))
theorem fn85 : Fn Go.Proofs.Try.prog 85 8 [.inl 4] c85 :=
  ⟨⟨_, _, Go.Proofs.Try.func85, rfl, by kernel_rfl, Go.Proofs.Try.ntmps85, by kernel_rfl, ⟨fun f => imp.contains f, false⟩, by kernel_rfl⟩⟩

def c91 : C :=
  (.seq (.reg [⟨(some 2), none, .box (t 0)⟩, ⟨(some 3), none, .box (t 1)⟩, ⟨(some 4), none, .alloc [(.int .i64 0), (.int .i64 0)]⟩])
  (.seq (.reg [⟨(some 5), none, .faddr 0 (t 2)⟩, ⟨(some 6), none, .load false 1 (t 5)⟩, ⟨(some 7), none, .faddr 0 (t 3)⟩, ⟨(some 8), none, .load false 1 (t 7)⟩, ⟨(some 9), none, .build [(.int .i64 0), (.int .i64 0)] [(0, 1, (t 6)), (1, 1, (t 8))]⟩, ⟨none, none, .store 2 (t 4) (t 9)⟩])
  .ret))
theorem fn91 : Fn Go.Proofs.Try.prog 91 10 [.inr (4, true, 2)] c91 :=
  ⟨⟨_, _, Go.Proofs.Try.func91, rfl, by kernel_rfl, Go.Proofs.Try.ntmps91, by kernel_rfl, ⟨fun f => imp.contains f, false⟩, by kernel_rfl⟩⟩

def c104 : C :=
  (.seq (.reg [⟨(some 4), none, .mv (k (.int .i64 0))⟩])
  (.seq (.seq (.reg [⟨(some 6), none, .mv (t 0)⟩, ⟨(some 7), none, .len (t 6)⟩, ⟨(some 8), none, .mv (k (.int .i64 0))⟩])
  (.block 0
  (.loop
  (.seq (.reg [⟨(some 9), none, .bin .lss (t 8) (t 7)⟩])
  (.seq (.cond (t 9)
  .skip
  (.exit 0))
  (.seq (.block 1
  (.seq (.reg [⟨(some 10), none, .mv (t 8)⟩, ⟨(some 5), none, .mv (t 10)⟩])
  (.seq (.reg [⟨(some 11), none, .mv (t 1)⟩, ⟨(some 12), none, .mv (t 0)⟩, ⟨(some 13), none, .mv (t 5)⟩, ⟨(some 14), none, .iaddr 4 (t 12) (t 13)⟩, ⟨(some 15), none, .load true 4 (t 14)⟩, ⟨(some 16), none, .pcall (t 11) [(t 15)]⟩])
  (.cond (t 16)
  (.seq (.reg [⟨(some 17), none, .mv (t 5)⟩, ⟨(some 4), none, .mv (t 17)⟩])
  .ret)
  .skip))))
  (.reg [⟨(some 18), none, .bin .add (t 8) (k (.int .i64 1))⟩, ⟨(some 8), none, .mv (t 18)⟩])))))))
  (.seq (.reg [⟨(some 4), none, .mv (k (.int .i64 (-1)))⟩])
  .ret)))
theorem fn104 : Fn Go.Proofs.Try.prog 104 19 [.inl 4] c104 :=
  ⟨⟨_, _, Go.Proofs.Try.func104, rfl, by kernel_rfl, Go.Proofs.Try.ntmps104, by kernel_rfl, ⟨fun f => imp.contains f, false⟩, by kernel_rfl⟩⟩

end GP
