import Derived.Test.YtnipbngimicldaaGpYe
import Derived.Test.YtnipbngimicldaaGpbi
import Derived.Test.YtnipbngimicldaaProg
namespace GP
open Go Go.Proofs
open Rd O
set_option maxRecDepth 100000
def c8 : C :=
  (.seq (.reg [⟨(some 0), none, .mv (k .nils)⟩])
  (.seq (.reg [⟨(some 1), none, .bsl 1 [(k (.str [100, 101, 110, 121, 95, 111, 118, 101, 114, 114, 105, 100, 101, 115])), (k (.str [112, 101, 114, 109, 105, 116, 95, 111, 118, 101, 114, 114, 105, 100, 101, 115])), (k (.str [102, 105, 114, 115, 116])), (k (.str [111, 110, 108, 121, 95, 111, 110, 101])), (k (.str [100, 101, 110, 121, 95, 117, 110, 108, 101, 115, 115, 95, 112, 101, 114, 109, 105, 116])), (k (.str [112, 101, 114, 109, 105, 116, 95, 117, 110, 108, 101, 115, 115, 95, 100, 101, 110, 121]))]⟩, ⟨(some 0), none, .mv (t 1)⟩])
  .ret))
theorem fn8 : Fn Go.Proofs.Try.prog 8 2 [.inl 0] c8 :=
  ⟨⟨_, _, Go.Proofs.Try.func8, rfl, by kernel_rfl, Go.Proofs.Try.ntmps8, by kernel_rfl, ⟨fun f => imp.contains f, false⟩, by kernel_rfl⟩⟩

def c20 : C :=
  (.seq (.reg [⟨(some 1), none, .box (t 0)⟩, ⟨(some 2), none, .mv (k (.bool false))⟩])
  (.seq (.seq (.reg [⟨(some 4), none, .faddr 5 (t 1)⟩, ⟨(some 5), none, .load false 1 (t 4)⟩, ⟨(some 6), none, .bin .eql (t 5) (k (.str [110, 111, 98, 111, 100, 121]))⟩, ⟨(some 7), none, .mv (t 6)⟩, ⟨(some 8), (some (7, true)), .faddr 6 (t 1)⟩, ⟨(some 9), (some (7, true)), .load false 1 (t 8)⟩, ⟨(some 10), (some (7, true)), .bin .eql (t 9) (k (.str [65]))⟩, ⟨(some 11), none, .pick (t 7) (t 10) (k (.bool false))⟩])
  (.cond (t 11)
  (.seq (.reg [⟨(some 2), none, .mv (k (.bool true))⟩])
  .ret)
  .skip))
  (.seq (.seq (.reg [⟨(some 3), none, .mv (k (.int .i64 0))⟩])
  (.block 0
  (.loop
  (.seq (.seq (.reg [⟨(some 12), none, .mv (t 3)⟩, ⟨(some 13), none, .faddr 7 (t 1)⟩, ⟨(some 14), none, .load false 1 (t 13)⟩, ⟨(some 15), none, .len (t 14)⟩, ⟨(some 16), none, .bin .lss (t 12) (t 15)⟩])
  (.cond (t 16)
  .skip
  (.exit 0)))
  (.seq (.block 1
  (.seq (.reg [⟨(some 19), none, .faddr 7 (t 1)⟩, ⟨(some 20), none, .load false 1 (t 19)⟩, ⟨(some 21), none, .mv (t 3)⟩, ⟨(some 22), none, .iaddr 8 (t 20) (t 21)⟩, ⟨(some 23), none, .load true 8 (t 22)⟩, ⟨(some 24), none, .pcall (k (.fn 20 [] [])) [(t 23)]⟩])
  (.cond (t 24)
  (.seq (.reg [⟨(some 2), none, .mv (k (.bool true))⟩])
  .ret)
  .skip)))
  (.reg [⟨(some 17), none, .mv (t 3)⟩, ⟨(some 18), none, .bin .add (t 17) (k (.int .i64 1))⟩, ⟨(some 3), none, .mv (t 18)⟩]))))))
  (.seq (.reg [⟨(some 2), none, .mv (k (.bool false))⟩])
  .ret))))
theorem fn20 : Fn Go.Proofs.Try.prog 20 25 [.inl 2] c20 :=
  ⟨⟨_, _, Go.Proofs.Try.func20, rfl, by kernel_rfl, Go.Proofs.Try.ntmps20, by kernel_rfl, ⟨fun f => imp.contains f, false⟩, by kernel_rfl⟩⟩

def c29 : C :=
  (.seq (.reg [⟨(some 4), none, .box (t 1)⟩, ⟨(some 5), none, .box (t 2)⟩, ⟨(some 6), none, .alloc [(.str []), (.int .i64 0), (.int .i64 0), (.str []), .nils, (.str []), (.str []), .nils]⟩])
  (.seq (.reg [⟨(some 7), none, .mv (t 0)⟩, ⟨(some 8), none, .load true 8 (t 4)⟩, ⟨(some 9), none, .load true 8 (t 5)⟩, ⟨(some 10), none, .bsl 8 [(t 8), (t 9)]⟩, ⟨(some 11), none, .build [(.str []), (.int .i64 0), (.int .i64 0), (.str []), .nils, (.str []), (.str []), .nils] [(0, 1, (t 7)), (7, 1, (t 10))]⟩, ⟨none, none, .store 8 (t 6) (t 11)⟩])
  .ret))
theorem fn29 : Fn Go.Proofs.Try.prog 29 12 [.inr (6, true, 8)] c29 :=
  ⟨⟨_, _, Go.Proofs.Try.func29, rfl, by kernel_rfl, Go.Proofs.Try.ntmps29, by kernel_rfl, ⟨fun f => imp.contains f, false⟩, by kernel_rfl⟩⟩

def c30 : C :=
  (.seq (.reg [⟨(some 3), none, .box (t 1)⟩, ⟨(some 4), none, .mv (k (.int .i64 0))⟩, ⟨(some 5), none, .mv (k (.int .i64 0))⟩])
  (.seq (.reg [⟨(some 12), none, .faddr 0 (t 3)⟩, ⟨(some 13), none, .load false 1 (t 12)⟩, ⟨(some 14), none, .pcall (k (.fn 46 [] [])) [(t 13)]⟩, ⟨(some 6), none, .mv (t 14)⟩])
  (.seq (.seq (.reg [⟨(some 15), none, .mv (t 6)⟩, ⟨(some 16), none, .bin .lss (t 15) (k (.int .i64 0))⟩, ⟨(some 17), none, .mv (t 16)⟩, ⟨(some 18), (some (17, false)), .faddr 7 (t 3)⟩, ⟨(some 19), (some (17, false)), .load false 1 (t 18)⟩, ⟨(some 20), (some (17, false)), .len (t 19)⟩, ⟨(some 21), (some (17, false)), .mv (t 6)⟩, ⟨(some 22), (some (17, false)), .bin .neq (t 20) (t 21)⟩, ⟨(some 23), none, .pick (t 17) (k (.bool true)) (t 22)⟩])
  (.cond (t 23)
  (.seq (.reg [⟨(some 4), none, .mv (k (.int .i64 0))⟩, ⟨(some 5), none, .mv (k (.int .i64 2))⟩])
  .ret)
  .skip))
  (.seq (.seq (.reg [⟨(some 24), none, .mv (t 6)⟩, ⟨(some 25), none, .bin .eql (t 24) (k (.int .i64 0))⟩])
  (.cond (t 25)
  (.seq (.reg [⟨(some 26), none, .mv (t 0)⟩, ⟨(some 27), none, .load true 8 (t 3)⟩, ⟨(some 28), none, .pcall (k (.fn 47 [] [])) [(t 26), (t 27)]⟩, ⟨(some 29), none, .ext 0 (t 28)⟩, ⟨(some 30), none, .ext 1 (t 28)⟩, ⟨(some 4), none, .mv (t 29)⟩, ⟨(some 5), none, .mv (t 30)⟩])
  .ret)
  .skip))
  (.seq (.reg [⟨(some 32), none, .mv (t 0)⟩, ⟨(some 33), none, .faddr 7 (t 3)⟩, ⟨(some 34), none, .load false 1 (t 33)⟩, ⟨(some 35), none, .iaddr 8 (t 34) (k (.int .i64 0))⟩, ⟨(some 36), none, .load true 8 (t 35)⟩, ⟨(some 37), none, .pcall (k (.fn 30 [] [])) [(t 32), (t 36)]⟩, ⟨(some 31), none, .mv (t 37)⟩, ⟨(some 38), none, .ext 0 (t 31)⟩, ⟨(some 39), none, .ext 1 (t 31)⟩, ⟨(some 7), none, .mv (t 38)⟩, ⟨(some 8), none, .mv (t 39)⟩])
  (.seq (.seq (.reg [⟨(some 40), none, .mv (t 8)⟩, ⟨(some 41), none, .bin .neq (t 40) (k (.int .i64 0))⟩])
  (.cond (t 41)
  (.seq (.reg [⟨(some 42), none, .mv (t 8)⟩, ⟨(some 4), none, .mv (k (.int .i64 0))⟩, ⟨(some 5), none, .mv (t 42)⟩])
  .ret)
  .skip))
  (.seq (.reg [⟨(some 43), none, .faddr 0 (t 3)⟩, ⟨(some 44), none, .load false 1 (t 43)⟩, ⟨(some 45), none, .mv (t 7)⟩, ⟨(some 46), none, .pcall (k (.fn 48 [] [])) [(t 44), (t 45)]⟩, ⟨(some 9), none, .mv (t 46)⟩])
  (.seq (.seq (.reg [⟨(some 47), none, .mv (t 6)⟩, ⟨(some 48), none, .bin .eql (t 47) (k (.int .i64 2))⟩])
  (.cond (t 48)
  (.seq (.reg [⟨(some 50), none, .mv (t 0)⟩, ⟨(some 51), none, .faddr 7 (t 3)⟩, ⟨(some 52), none, .load false 1 (t 51)⟩, ⟨(some 53), none, .iaddr 8 (t 52) (k (.int .i64 1))⟩, ⟨(some 54), none, .load true 8 (t 53)⟩, ⟨(some 55), none, .pcall (k (.fn 30 [] [])) [(t 50), (t 54)]⟩, ⟨(some 49), none, .mv (t 55)⟩, ⟨(some 56), none, .ext 0 (t 49)⟩, ⟨(some 57), none, .ext 1 (t 49)⟩, ⟨(some 10), none, .mv (t 56)⟩, ⟨(some 11), none, .mv (t 57)⟩])
  (.seq (.seq (.reg [⟨(some 58), none, .mv (t 11)⟩, ⟨(some 59), none, .bin .neq (t 58) (k (.int .i64 0))⟩])
  (.cond (t 59)
  (.seq (.reg [⟨(some 60), none, .mv (t 11)⟩, ⟨(some 4), none, .mv (k (.int .i64 0))⟩, ⟨(some 5), none, .mv (t 60)⟩])
  .ret)
  .skip))
  (.reg [⟨(some 61), none, .faddr 0 (t 3)⟩, ⟨(some 62), none, .load false 1 (t 61)⟩, ⟨(some 63), none, .mv (t 7)⟩, ⟨(some 64), none, .mv (t 10)⟩, ⟨(some 65), none, .pcall (k (.fn 49 [] [])) [(t 62), (t 63), (t 64)]⟩, ⟨(some 9), none, .mv (t 65)⟩])))
  .skip))
  (.seq (.seq (.reg [⟨(some 66), none, .mv (t 9)⟩, ⟨(some 67), none, .bin .eql (t 66) (k (.int .i64 0))⟩])
  (.cond (t 67)
  (.seq (.reg [⟨(some 4), none, .mv (k (.int .i64 0))⟩, ⟨(some 5), none, .mv (k (.int .i64 6))⟩])
  .ret)
  .skip))
  (.seq (.reg [⟨(some 68), none, .mv (t 9)⟩, ⟨(some 4), none, .mv (t 68)⟩, ⟨(some 5), none, .mv (k (.int .i64 0))⟩])
  .ret))))))))))
theorem fn30 : Fn Go.Proofs.Try.prog 30 69 [.inl 4, .inl 5] c30 :=
  ⟨⟨_, _, Go.Proofs.Try.func30, rfl, by kernel_rfl, Go.Proofs.Try.ntmps30, by kernel_rfl, ⟨fun f => imp.contains f, false⟩, by kernel_rfl⟩⟩

def c32 : C :=
  (.seq (.reg [⟨(some 2), none, .mv (k (.int .i64 0))⟩])
  (.seq (.seq (.reg [⟨(some 5), none, .mv (t 0)⟩, ⟨(some 6), none, .bin .eql (t 5) (k (.str [118, 97, 108, 117, 101]))⟩, ⟨(some 7), none, .mv (t 6)⟩, ⟨(some 8), (some (7, false)), .mv (t 0)⟩, ⟨(some 9), (some (7, false)), .bin .eql (t 8) (k (.str [110, 111, 119]))⟩, ⟨(some 10), none, .pick (t 7) (k (.bool true)) (t 9)⟩, ⟨(some 11), none, .mv (t 10)⟩, ⟨(some 12), (some (11, false)), .mv (t 0)⟩, ⟨(some 13), (some (11, false)), .bin .eql (t 12) (k (.str [97, 116, 116, 114]))⟩, ⟨(some 14), none, .pick (t 11) (k (.bool true)) (t 13)⟩, ⟨(some 15), none, .mv (t 14)⟩, ⟨(some 16), (some (15, false)), .mv (t 0)⟩, ⟨(some 17), (some (15, false)), .bin .eql (t 16) (k (.str [104, 97, 115]))⟩, ⟨(some 18), none, .pick (t 15) (k (.bool true)) (t 17)⟩, ⟨(some 19), none, .mv (t 18)⟩, ⟨(some 20), (some (19, false)), .mv (t 0)⟩, ⟨(some 21), (some (19, false)), .bin .eql (t 20) (k (.str [114, 111, 108, 101]))⟩, ⟨(some 22), none, .pick (t 19) (k (.bool true)) (t 21)⟩])
  (.cond (t 22)
  (.seq (.reg [⟨(some 2), none, .mv (k (.int .i64 0))⟩])
  .ret)
  .skip))
  (.seq (.reg [⟨(some 23), none, .pcall (k (.fn 34 [] [])) []⟩, ⟨(some 3), none, .mv (t 23)⟩])
  (.seq (.seq (.reg [⟨(some 4), none, .mv (k (.int .i64 0))⟩])
  (.block 0
  (.loop
  (.seq (.seq (.reg [⟨(some 24), none, .mv (t 4)⟩, ⟨(some 25), none, .mv (t 3)⟩, ⟨(some 26), none, .len (t 25)⟩, ⟨(some 27), none, .bin .lss (t 24) (t 26)⟩])
  (.cond (t 27)
  .skip
  (.exit 0)))
  (.seq (.block 1
  (.seq (.seq (.reg [⟨(some 30), none, .mv (t 3)⟩, ⟨(some 31), none, .mv (t 4)⟩, ⟨(some 32), none, .iaddr 4 (t 30) (t 31)⟩, ⟨(some 33), none, .faddr 0 (t 32)⟩, ⟨(some 34), none, .load false 1 (t 33)⟩, ⟨(some 35), none, .mv (t 0)⟩, ⟨(some 36), none, .bin .eql (t 34) (t 35)⟩, ⟨(some 37), none, .mv (t 36)⟩, ⟨(some 38), (some (37, true)), .mv (t 3)⟩, ⟨(some 39), (some (37, true)), .mv (t 4)⟩, ⟨(some 40), (some (37, true)), .iaddr 4 (t 38) (t 39)⟩, ⟨(some 41), (some (37, true)), .faddr 2 (t 40)⟩, ⟨(some 42), (some (37, true)), .load false 1 (t 41)⟩, ⟨(some 43), (some (37, true)), .bin .gtr (t 42) (k (.int .i64 0))⟩, ⟨(some 44), none, .pick (t 37) (t 43) (k (.bool false))⟩])
  (.cond (t 44)
  (.seq (.reg [⟨(some 2), none, .mv (k (.int .i64 2))⟩])
  .ret)
  .skip))
  (.seq (.reg [⟨(some 45), none, .mv (t 3)⟩, ⟨(some 46), none, .mv (t 4)⟩, ⟨(some 47), none, .iaddr 4 (t 45) (t 46)⟩, ⟨(some 48), none, .faddr 0 (t 47)⟩, ⟨(some 49), none, .load false 1 (t 48)⟩, ⟨(some 50), none, .mv (t 0)⟩, ⟨(some 51), none, .bin .eql (t 49) (t 50)⟩])
  (.cond (t 51)
  (.seq (.reg [⟨(some 2), none, .mv (k (.int .i64 1))⟩])
  .ret)
  .skip))))
  (.reg [⟨(some 28), none, .mv (t 4)⟩, ⟨(some 29), none, .bin .add (t 28) (k (.int .i64 1))⟩, ⟨(some 4), none, .mv (t 29)⟩]))))))
  (.seq (.reg [⟨(some 2), none, .mv (k (.int .i64 (-1)))⟩])
  .ret)))))
theorem fn32 : Fn Go.Proofs.Try.prog 32 52 [.inl 2] c32 :=
  ⟨⟨_, _, Go.Proofs.Try.func32, rfl, by kernel_rfl, Go.Proofs.Try.ntmps32, by kernel_rfl, ⟨fun f => imp.contains f, false⟩, by kernel_rfl⟩⟩

def c33 : C :=
  (.seq (.reg [⟨(some 3), none, .box (t 1)⟩, ⟨(some 4), none, .mv (k (.int .i64 0))⟩, ⟨(some 5), none, .mv (k (.int .i64 0))⟩])
  (.seq (.seq (.reg [⟨(some 8), none, .faddr 0 (t 3)⟩, ⟨(some 9), none, .load false 1 (t 8)⟩, ⟨(some 10), none, .bin .eql (t 9) (k (.str [110, 111, 119]))⟩])
  (.cond (t 10)
  (.seq (.reg [⟨(some 4), none, .mv (k (.int .i64 4))⟩, ⟨(some 5), none, .mv (k (.int .i64 0))⟩])
  .ret)
  .skip))
  (.seq (.seq (.reg [⟨(some 11), none, .faddr 0 (t 3)⟩, ⟨(some 12), none, .load false 1 (t 11)⟩, ⟨(some 13), none, .bin .eql (t 12) (k (.str [114, 111, 108, 101]))⟩])
  (.cond (t 13)
  (.seq (.reg [⟨(some 4), none, .mv (k (.int .i64 1))⟩, ⟨(some 5), none, .mv (k (.int .i64 0))⟩])
  .ret)
  .skip))
  (.seq (.seq (.reg [⟨(some 14), none, .faddr 0 (t 3)⟩, ⟨(some 15), none, .load false 1 (t 14)⟩, ⟨(some 16), none, .bin .eql (t 15) (k (.str [118, 97, 108, 117, 101]))⟩])
  (.cond (t 16)
  (.seq (.seq (.reg [⟨(some 17), none, .faddr 1 (t 3)⟩, ⟨(some 18), none, .load true 4 (t 17)⟩, ⟨(some 19), none, .pcall (k (.fn 18 [] [])) [(t 18)]⟩, ⟨(some 20), none, .un .not (t 19)⟩, ⟨(some 21), none, .mv (t 20)⟩, ⟨(some 22), (some (21, false)), .faddr 1 (t 3)⟩, ⟨(some 23), (some (21, false)), .faddr 0 (t 22)⟩, ⟨(some 24), (some (21, false)), .load false 1 (t 23)⟩, ⟨(some 25), (some (21, false)), .bin .eql (t 24) (k (.int .i64 0))⟩, ⟨(some 26), none, .pick (t 21) (k (.bool true)) (t 25)⟩, ⟨(some 27), none, .mv (t 26)⟩, ⟨(some 28), (some (27, false)), .faddr 1 (t 3)⟩, ⟨(some 29), (some (27, false)), .faddr 0 (t 28)⟩, ⟨(some 30), (some (27, false)), .load false 1 (t 29)⟩, ⟨(some 31), (some (27, false)), .bin .eql (t 30) (k (.int .i64 5))⟩, ⟨(some 32), (some (27, false)), .mv (t 31)⟩, ⟨(some 33), (some (32, true)), .faddr 1 (t 3)⟩, ⟨(some 34), (some (32, true)), .faddr 3 (t 33)⟩, ⟨(some 35), (some (32, true)), .load false 1 (t 34)⟩, ⟨(some 36), (some (32, true)), .len (t 35)⟩, ⟨(some 37), (some (32, true)), .bin .eql (t 36) (k (.int .i64 0))⟩, ⟨(some 38), (some (27, false)), .pick (t 32) (t 37) (k (.bool false))⟩, ⟨(some 39), none, .pick (t 27) (k (.bool true)) (t 38)⟩])
  (.cond (t 39)
  (.seq (.reg [⟨(some 4), none, .mv (k (.int .i64 0))⟩, ⟨(some 5), none, .mv (k (.int .i64 2))⟩])
  .ret)
  .skip))
  (.seq (.seq (.reg [⟨(some 40), none, .faddr 1 (t 3)⟩, ⟨(some 41), none, .faddr 0 (t 40)⟩, ⟨(some 42), none, .load false 1 (t 41)⟩, ⟨(some 43), none, .bin .eql (t 42) (k (.int .i64 5))⟩])
  (.cond (t 43)
  (.seq (.reg [⟨(some 44), none, .faddr 1 (t 3)⟩, ⟨(some 45), none, .faddr 3 (t 44)⟩, ⟨(some 46), none, .load false 1 (t 45)⟩, ⟨(some 47), none, .iaddr 4 (t 46) (k (.int .i64 0))⟩, ⟨(some 48), none, .faddr 0 (t 47)⟩, ⟨(some 49), none, .load false 1 (t 48)⟩, ⟨(some 50), none, .bin .add (k (.int .i64 10)) (t 49)⟩, ⟨(some 4), none, .mv (t 50)⟩, ⟨(some 5), none, .mv (k (.int .i64 0))⟩])
  .ret)
  .skip))
  (.seq (.reg [⟨(some 51), none, .faddr 1 (t 3)⟩, ⟨(some 52), none, .faddr 0 (t 51)⟩, ⟨(some 53), none, .load false 1 (t 52)⟩, ⟨(some 4), none, .mv (t 53)⟩, ⟨(some 5), none, .mv (k (.int .i64 0))⟩])
  .ret)))
  .skip))
  (.seq (.seq (.reg [⟨(some 6), none, .mv (k (.int .i64 0))⟩])
  (.block 0
  (.loop
  (.seq (.seq (.reg [⟨(some 54), none, .mv (t 6)⟩, ⟨(some 55), none, .mv (t 0)⟩, ⟨(some 56), none, .len (t 55)⟩, ⟨(some 57), none, .bin .lss (t 54) (t 56)⟩])
  (.cond (t 57)
  .skip
  (.exit 0)))
  (.seq (.block 1
  (.seq (.seq (.draw 0 [(⟨(some 60), none, .mv (t 0)⟩, []), (⟨(some 61), none, .mv (t 6)⟩, []), (⟨(some 62), none, .iaddr 4 (t 60) (t 61)⟩, []), (⟨(some 63), none, .faddr 0 (t 62)⟩, []), (⟨(some 64), none, .load false 1 (t 63)⟩, []), (⟨(some 65), none, .faddr 5 (t 3)⟩, []), (⟨(some 66), none, .load false 1 (t 65)⟩, []), (⟨(some 67), none, .bin .neq (t 64) (t 66)⟩, []), (⟨(some 68), none, .mv (t 67)⟩, []), (⟨(some 69), (some (68, false)), .mv (t 0)⟩, []), (⟨(some 70), (some (68, false)), .mv (t 6)⟩, []), (⟨(some 71), (some (68, false)), .iaddr 4 (t 69) (t 70)⟩, []), (⟨(some 72), (some (68, false)), .faddr 1 (t 71)⟩, []), (⟨(some 73), (some (68, false)), .load false 1 (t 72)⟩, []), (⟨(some 74), (some (68, false)), .faddr 6 (t 3)⟩, []), (⟨(some 75), (some (68, false)), .load false 1 (t 74)⟩, []), (⟨(some 76), (some (68, false)), .bin .neq (t 73) (t 75)⟩, []), (⟨(some 77), none, .pick (t 68) (k (.bool true)) (t 76)⟩, [])])
  (.cond (t 77)
  (.exit 1)
  .skip))
  (.seq (.seq (.reg [⟨(some 78), none, .faddr 0 (t 3)⟩, ⟨(some 79), none, .load false 1 (t 78)⟩, ⟨(some 80), none, .bin .eql (t 79) (k (.str [104, 97, 115]))⟩])
  (.cond (t 80)
  (.seq (.reg [⟨(some 81), none, .mv (t 0)⟩, ⟨(some 82), none, .mv (t 6)⟩, ⟨(some 83), none, .iaddr 4 (t 81) (t 82)⟩, ⟨(some 84), none, .load true 4 (t 83)⟩, ⟨(some 85), none, .pcall (k (.fn 50 [] [])) [(t 84)]⟩, ⟨(some 4), none, .mv (k (.int .i64 1))⟩, ⟨(some 5), none, .mv (t 85)⟩])
  .ret)
  .skip))
  (.seq (.reg [⟨(some 86), none, .mv (t 0)⟩, ⟨(some 87), none, .mv (t 6)⟩, ⟨(some 88), none, .iaddr 4 (t 86) (t 87)⟩, ⟨(some 89), none, .faddr 2 (t 88)⟩, ⟨(some 90), none, .load false 1 (t 89)⟩, ⟨(some 7), none, .mv (t 90)⟩])
  (.seq (.seq (.reg [⟨(some 91), none, .mv (t 0)⟩, ⟨(some 92), none, .mv (t 6)⟩, ⟨(some 93), none, .iaddr 4 (t 91) (t 92)⟩, ⟨(some 94), none, .faddr 3 (t 93)⟩, ⟨(some 95), none, .load false 1 (t 94)⟩])
  (.cond (t 95)
  (.reg [⟨(some 96), none, .mv (t 7)⟩, ⟨(some 97), none, .bin .add (t 96) (k (.int .i64 10))⟩, ⟨(some 7), none, .mv (t 97)⟩])
  .skip))
  (.seq (.seq (.reg [⟨(some 98), none, .mv (t 7)⟩, ⟨(some 99), none, .bin .eql (t 98) (k (.int .i64 0))⟩])
  (.cond (t 99)
  (.seq (.reg [⟨(some 4), none, .mv (k (.int .i64 0))⟩, ⟨(some 5), none, .mv (k (.int .i64 8))⟩])
  .ret)
  .skip))
  (.seq (.reg [⟨(some 100), none, .mv (t 7)⟩, ⟨(some 4), none, .mv (t 100)⟩, ⟨(some 5), none, .mv (k (.int .i64 0))⟩])
  .ret)))))))
  (.reg [⟨(some 58), none, .mv (t 6)⟩, ⟨(some 59), none, .bin .add (t 58) (k (.int .i64 1))⟩, ⟨(some 6), none, .mv (t 59)⟩]))))))
  (.seq (.reg [⟨(some 4), none, .mv (k (.int .i64 0))⟩, ⟨(some 5), none, .mv (k (.int .i64 8))⟩])
  .ret))))))
theorem fn33 : Fn Go.Proofs.Try.prog 33 101 [.inl 4, .inl 5] c33 :=
  ⟨⟨_, _, Go.Proofs.Try.func33, rfl, by kernel_rfl, Go.Proofs.Try.ntmps33, by kernel_rfl, ⟨fun f => imp.contains f, false⟩, by kernel_rfl⟩⟩

def c35 : C :=
  (.seq (.reg [⟨(some 2), none, .box (t 0)⟩, ⟨(some 3), none, .box (t 1)⟩, ⟨(some 4), none, .mv (k (.int .i64 0))⟩])
  (.seq (.block 0
  (.seq (.reg [⟨(some 6), none, .load true 3 (t 3)⟩, ⟨(some 7), none, .pcall (k (.fn 23 [] [])) [(t 6)]⟩, ⟨(some 8), none, .un .not (t 7)⟩, ⟨(some 5), none, .mv (t 8)⟩])
  (.cond (t 5)
  (.seq (.reg [⟨(some 4), none, .mv (k (.int .i64 1))⟩])
  .ret)
  (.seq (.reg [⟨(some 10), none, .load true 8 (t 2)⟩, ⟨(some 11), none, .pcall (k (.fn 51 [] [])) [(t 10)]⟩, ⟨(some 12), none, .un .not (t 11)⟩, ⟨(some 9), none, .mv (t 12)⟩])
  (.cond (t 9)
  (.seq (.reg [⟨(some 4), none, .mv (k (.int .i64 2))⟩])
  .ret)
  .skip)))))
  (.seq (.reg [⟨(some 4), none, .mv (k (.int .i64 0))⟩])
  .ret)))
theorem fn35 : Fn Go.Proofs.Try.prog 35 13 [.inl 4] c35 :=
  ⟨⟨_, _, Go.Proofs.Try.func35, rfl, by kernel_rfl, Go.Proofs.Try.ntmps35, by kernel_rfl, ⟨fun f => imp.contains f, false⟩, by kernel_rfl⟩⟩

def c36 : C :=
  (.seq (.reg [⟨(some 2), none, .box (t 0)⟩, ⟨(some 3), none, .box (t 1)⟩, ⟨(some 4), none, .alloc [(.int .i64 0), (.int .i64 0), (.str []), .nils]⟩, ⟨(some 5), none, .mv (k (.int .i64 0))⟩])
  (.seq (.block 0
  (.seq (.reg [⟨(some 10), none, .faddr 7 (t 3)⟩, ⟨(some 11), none, .load false 1 (t 10)⟩, ⟨(some 12), none, .len (t 11)⟩, ⟨(some 13), none, .bin .eql (t 12) (k (.int .i64 0))⟩, ⟨(some 9), none, .mv (t 13)⟩])
  (.cond (t 9)
  (.seq (.reg [⟨(some 14), none, .load true 3 (t 2)⟩, ⟨(some 15), none, .load true 8 (t 3)⟩, ⟨(some 16), none, .pcall (k (.fn 52 [] [])) [(t 14), (t 15)]⟩, ⟨(some 17), none, .ext 0 (t 16)⟩, ⟨(some 18), none, .ext 1 (t 16)⟩, ⟨none, none, .store 4 (t 4) (t 17)⟩, ⟨(some 5), none, .mv (t 18)⟩])
  .ret)
  (.seq (.reg [⟨(some 20), none, .faddr 0 (t 3)⟩, ⟨(some 21), none, .load false 1 (t 20)⟩, ⟨(some 22), none, .bin .eql (t 21) (k (.str [97, 110, 100]))⟩, ⟨(some 19), none, .mv (t 22)⟩])
  (.cond (t 19)
  (.seq (.reg [⟨(some 23), none, .load true 3 (t 2)⟩, ⟨(some 24), none, .load true 8 (t 3)⟩, ⟨(some 25), none, .pcall (k (.fn 53 [] [])) [(t 23), (t 24), (k (.bool false))]⟩, ⟨(some 26), none, .ext 0 (t 25)⟩, ⟨(some 27), none, .ext 1 (t 25)⟩, ⟨none, none, .store 4 (t 4) (t 26)⟩, ⟨(some 5), none, .mv (t 27)⟩])
  .ret)
  (.seq (.reg [⟨(some 29), none, .faddr 0 (t 3)⟩, ⟨(some 30), none, .load false 1 (t 29)⟩, ⟨(some 31), none, .bin .eql (t 30) (k (.str [111, 114]))⟩, ⟨(some 28), none, .mv (t 31)⟩])
  (.cond (t 28)
  (.seq (.reg [⟨(some 32), none, .load true 3 (t 2)⟩, ⟨(some 33), none, .load true 8 (t 3)⟩, ⟨(some 34), none, .pcall (k (.fn 53 [] [])) [(t 32), (t 33), (k (.bool true))]⟩, ⟨(some 35), none, .ext 0 (t 34)⟩, ⟨(some 36), none, .ext 1 (t 34)⟩, ⟨none, none, .store 4 (t 4) (t 35)⟩, ⟨(some 5), none, .mv (t 36)⟩])
  .ret)
  .skip)))))))
  (.seq (.draw 1 [(⟨(some 38), none, .load true 3 (t 2)⟩, []), (⟨(some 39), none, .faddr 7 (t 3)⟩, []), (⟨(some 40), none, .load false 1 (t 39)⟩, []), (⟨(some 41), none, .iaddr 8 (t 40) (k (.int .i64 0))⟩, []), (⟨(some 42), none, .load true 8 (t 41)⟩, []), (⟨(some 43), none, .pcall (k (.fn 36 [] [])) [(t 38), (t 42)]⟩, []), (⟨(some 37), none, .mv (t 43)⟩, []), (⟨(some 44), none, .ext 0 (t 37)⟩, []), (⟨(some 45), none, .ext 1 (t 37)⟩, []), (⟨(some 6), none, .rawAt 1 [(.int .i64 0), (.int .i64 0), (.str []), .nils]⟩, []), (⟨none, none, .fillAt 1 4 (t 6) (t 44)⟩, []), (⟨(some 7), none, .mv (t 45)⟩, [])])
  (.seq (.seq (.reg [⟨(some 46), none, .mv (t 7)⟩, ⟨(some 47), none, .bin .neq (t 46) (k (.int .i64 0))⟩])
  (.cond (t 47)
  (.seq (.reg [⟨(some 48), none, .build [(.int .i64 0), (.int .i64 0), (.str []), .nils] []⟩, ⟨(some 49), none, .mv (t 7)⟩, ⟨none, none, .store 4 (t 4) (t 48)⟩, ⟨(some 5), none, .mv (t 49)⟩])
  .ret)
  .skip))
  (.seq (.seq (.reg [⟨(some 50), none, .faddr 7 (t 3)⟩, ⟨(some 51), none, .load false 1 (t 50)⟩, ⟨(some 52), none, .len (t 51)⟩, ⟨(some 53), none, .bin .eql (t 52) (k (.int .i64 1))⟩])
  (.cond (t 53)
  (.seq (.reg [⟨(some 54), none, .faddr 0 (t 3)⟩, ⟨(some 55), none, .load false 1 (t 54)⟩, ⟨(some 56), none, .load true 4 (t 6)⟩, ⟨(some 57), none, .pcall (k (.fn 54 [] [])) [(t 55), (t 56)]⟩, ⟨(some 58), none, .ext 0 (t 57)⟩, ⟨(some 59), none, .ext 1 (t 57)⟩, ⟨none, none, .store 4 (t 4) (t 58)⟩, ⟨(some 5), none, .mv (t 59)⟩])
  .ret)
  .skip))
  (.seq (.draw 1 [(⟨(some 61), none, .load true 3 (t 2)⟩, []), (⟨(some 62), none, .faddr 7 (t 3)⟩, []), (⟨(some 63), none, .load false 1 (t 62)⟩, []), (⟨(some 64), none, .iaddr 8 (t 63) (k (.int .i64 1))⟩, []), (⟨(some 65), none, .load true 8 (t 64)⟩, []), (⟨(some 66), none, .pcall (k (.fn 36 [] [])) [(t 61), (t 65)]⟩, []), (⟨(some 60), none, .mv (t 66)⟩, []), (⟨(some 67), none, .ext 0 (t 60)⟩, []), (⟨(some 68), none, .ext 1 (t 60)⟩, []), (⟨(some 8), none, .rawAt 1 [(.int .i64 0), (.int .i64 0), (.str []), .nils]⟩, []), (⟨none, none, .fillAt 1 4 (t 8) (t 67)⟩, []), (⟨(some 7), none, .mv (t 68)⟩, [])])
  (.seq (.seq (.reg [⟨(some 69), none, .mv (t 7)⟩, ⟨(some 70), none, .bin .neq (t 69) (k (.int .i64 0))⟩])
  (.cond (t 70)
  (.seq (.reg [⟨(some 71), none, .build [(.int .i64 0), (.int .i64 0), (.str []), .nils] []⟩, ⟨(some 72), none, .mv (t 7)⟩, ⟨none, none, .store 4 (t 4) (t 71)⟩, ⟨(some 5), none, .mv (t 72)⟩])
  .ret)
  .skip))
  (.seq (.reg [⟨(some 73), none, .faddr 0 (t 3)⟩, ⟨(some 74), none, .load false 1 (t 73)⟩, ⟨(some 75), none, .load true 4 (t 6)⟩, ⟨(some 76), none, .load true 4 (t 8)⟩, ⟨(some 77), none, .pcall (k (.fn 55 [] [])) [(t 74), (t 75), (t 76)]⟩, ⟨(some 78), none, .ext 0 (t 77)⟩, ⟨(some 79), none, .ext 1 (t 77)⟩, ⟨none, none, .store 4 (t 4) (t 78)⟩, ⟨(some 5), none, .mv (t 79)⟩])
  .ret))))))))
theorem fn36 : Fn Go.Proofs.Try.prog 36 80 [.inr (4, true, 4), .inl 5] c36 :=
  ⟨⟨_, _, Go.Proofs.Try.func36, rfl, by kernel_rfl, Go.Proofs.Try.ntmps36, by kernel_rfl, ⟨fun f => imp.contains f, false⟩, by kernel_rfl⟩⟩

def c38 : C :=
  (.seq (.reg [⟨(some 2), none, .box (t 0)⟩, ⟨(some 3), none, .box (t 1)⟩, ⟨(some 4), none, .mv (k (.int .i64 0))⟩])
  (.seq (.seq (.reg [⟨(some 5), none, .faddr 0 (t 2)⟩, ⟨(some 6), none, .load false 1 (t 5)⟩, ⟨(some 7), none, .faddr 0 (t 3)⟩, ⟨(some 8), none, .load false 1 (t 7)⟩, ⟨(some 9), none, .bin .neq (t 6) (t 8)⟩])
  (.cond (t 9)
  (.seq (.reg [⟨(some 10), none, .faddr 0 (t 2)⟩, ⟨(some 11), none, .load false 1 (t 10)⟩, ⟨(some 12), none, .faddr 0 (t 3)⟩, ⟨(some 13), none, .load false 1 (t 12)⟩, ⟨(some 14), none, .pcall (k (.fn 56 [] [])) [(t 11), (t 13)]⟩, ⟨(some 4), none, .mv (t 14)⟩])
  .ret)
  .skip))
  (.seq (.seq (.reg [⟨(some 15), none, .faddr 0 (t 2)⟩, ⟨(some 16), none, .load false 1 (t 15)⟩, ⟨(some 17), none, .bin .eql (t 16) (k (.int .i64 3))⟩])
  (.cond (t 17)
  (.seq (.reg [⟨(some 18), none, .faddr 2 (t 2)⟩, ⟨(some 19), none, .load false 1 (t 18)⟩, ⟨(some 20), none, .faddr 2 (t 3)⟩, ⟨(some 21), none, .load false 1 (t 20)⟩, ⟨(some 22), none, .pcall (k (.fn 57 [] [])) [(t 19), (t 21)]⟩, ⟨(some 4), none, .mv (t 22)⟩])
  .ret)
  .skip))
  (.seq (.reg [⟨(some 23), none, .faddr 1 (t 2)⟩, ⟨(some 24), none, .load false 1 (t 23)⟩, ⟨(some 25), none, .faddr 1 (t 3)⟩, ⟨(some 26), none, .load false 1 (t 25)⟩, ⟨(some 27), none, .pcall (k (.fn 56 [] [])) [(t 24), (t 26)]⟩, ⟨(some 4), none, .mv (t 27)⟩])
  .ret))))
theorem fn38 : Fn Go.Proofs.Try.prog 38 28 [.inl 4] c38 :=
  ⟨⟨_, _, Go.Proofs.Try.func38, rfl, by kernel_rfl, Go.Proofs.Try.ntmps38, by kernel_rfl, ⟨fun f => imp.contains f, false⟩, by kernel_rfl⟩⟩

def c64 : C :=
  (.seq (.reg [⟨(some 4), none, .alloc [(.int .i64 0), (.int .u64 0)]⟩])
  (.seq (.reg [⟨(some 9), none, .mv (t 1)⟩, ⟨(some 10), none, .bin .lss (t 9) (k (.int .i64 0))⟩, ⟨(some 5), none, .mv (t 10)⟩])
  (.seq (.reg [⟨(some 11), none, .mv (t 1)⟩, ⟨(some 12), none, .conv .u64 (t 11)⟩, ⟨(some 6), none, .mv (t 12)⟩])
  (.seq (.seq (.reg [⟨(some 13), none, .mv (t 5)⟩])
  (.cond (t 13)
  (.reg [⟨(some 14), none, .mv (t 6)⟩, ⟨(some 15), none, .un .xor (t 14)⟩, ⟨(some 16), none, .bin .add (t 15) (k (.int .u64 1))⟩, ⟨(some 6), none, .mv (t 16)⟩])
  .skip))
  (.seq (.reg [⟨(some 17), none, .build [(.int .i64 0), (.int .u64 0)] []⟩, ⟨(some 18), none, .mv (t 0)⟩, ⟨(some 19), none, .pcall (k (.fn 60 [] [])) [(t 18)]⟩, ⟨(some 7), none, .alloc [(.int .i64 0), (.int .u64 0)]⟩, ⟨(some 8), none, .alloc [(.int .i64 0), (.int .u64 0)]⟩, ⟨none, none, .store 2 (t 7) (t 17)⟩, ⟨none, none, .store 2 (t 8) (t 19)⟩])
  (.seq (.block 0
  (.loop
  (.seq (.seq (.reg [⟨(some 20), none, .mv (t 6)⟩, ⟨(some 21), none, .bin .gtr (t 20) (k (.int .u64 0))⟩])
  (.cond (t 21)
  .skip
  (.exit 0)))
  (.block 1
  (.seq (.seq (.reg [⟨(some 22), none, .mv (t 6)⟩, ⟨(some 23), none, .bin .rem (t 22) (k (.int .u64 2))⟩, ⟨(some 24), none, .bin .eql (t 23) (k (.int .u64 1))⟩])
  (.cond (t 24)
  (.reg [⟨(some 25), none, .load true 2 (t 7)⟩, ⟨(some 26), none, .load true 2 (t 8)⟩, ⟨(some 27), none, .pcall (k (.fn 62 [] [])) [(t 25), (t 26)]⟩, ⟨none, none, .store 2 (t 7) (t 27)⟩])
  .skip))
  (.seq (.reg [⟨(some 28), none, .load true 2 (t 8)⟩, ⟨(some 29), none, .load true 2 (t 8)⟩, ⟨(some 30), none, .pcall (k (.fn 62 [] [])) [(t 28), (t 29)]⟩, ⟨none, none, .store 2 (t 8) (t 30)⟩])
  (.reg [⟨(some 31), none, .mv (t 6)⟩, ⟨(some 32), none, .bin .quo (t 31) (k (.int .u64 2))⟩, ⟨(some 6), none, .mv (t 32)⟩])))))))
  (.seq (.seq (.reg [⟨(some 33), none, .mv (t 5)⟩])
  (.cond (t 33)
  (.seq (.reg [⟨(some 34), none, .load true 2 (t 7)⟩, ⟨(some 35), none, .pcall (k (.fn 61 [] [])) [(t 34)]⟩, ⟨none, none, .store 2 (t 4) (t 35)⟩])
  .ret)
  .skip))
  (.seq (.reg [⟨(some 36), none, .load true 2 (t 7)⟩, ⟨none, none, .store 2 (t 4) (t 36)⟩])
  .ret))))))))
theorem fn64 : Fn Go.Proofs.Try.prog 64 37 [.inr (4, true, 2)] c64 :=
  ⟨⟨_, _, Go.Proofs.Try.func64, rfl, by kernel_rfl, Go.Proofs.Try.ntmps64, by kernel_rfl, ⟨fun f => imp.contains f, false⟩, by kernel_rfl⟩⟩

def c67 : C :=
  (.seq (.reg [⟨(some 1), none, .box (t 0)⟩, ⟨(some 2), none, .mv (k (.int .i64 0))⟩])
  (.seq (.block 0
  (.seq (.reg [⟨(some 4), none, .load true 4 (t 1)⟩, ⟨(some 5), none, .pcall (k (.fn 40 [] [])) [(t 4)]⟩, ⟨(some 6), none, .un .not (t 5)⟩, ⟨(some 7), none, .mv (t 6)⟩, ⟨(some 8), (some (7, false)), .faddr 0 (t 1)⟩, ⟨(some 9), (some (7, false)), .load false 1 (t 8)⟩, ⟨(some 10), (some (7, false)), .bin .eql (t 9) (k (.int .i64 0))⟩, ⟨(some 11), none, .pick (t 7) (k (.bool true)) (t 10)⟩, ⟨(some 12), none, .mv (t 11)⟩, ⟨(some 13), (some (12, false)), .faddr 0 (t 1)⟩, ⟨(some 14), (some (12, false)), .load false 1 (t 13)⟩, ⟨(some 15), (some (12, false)), .bin .eql (t 14) (k (.int .i64 5))⟩, ⟨(some 16), (some (12, false)), .mv (t 15)⟩, ⟨(some 17), (some (16, true)), .faddr 3 (t 1)⟩, ⟨(some 18), (some (16, true)), .load false 1 (t 17)⟩, ⟨(some 19), (some (16, true)), .len (t 18)⟩, ⟨(some 20), (some (16, true)), .bin .eql (t 19) (k (.int .i64 0))⟩, ⟨(some 21), (some (12, false)), .pick (t 16) (t 20) (k (.bool false))⟩, ⟨(some 22), none, .pick (t 12) (k (.bool true)) (t 21)⟩, ⟨(some 3), none, .mv (t 22)⟩])
  (.cond (t 3)
  (.seq (.reg [⟨(some 2), none, .mv (k (.int .i64 0))⟩])
  .ret)
  (.seq (.reg [⟨(some 24), none, .faddr 0 (t 1)⟩, ⟨(some 25), none, .load false 1 (t 24)⟩, ⟨(some 26), none, .bin .eql (t 25) (k (.int .i64 5))⟩, ⟨(some 23), none, .mv (t 26)⟩])
  (.cond (t 23)
  (.seq (.reg [⟨(some 27), none, .faddr 3 (t 1)⟩, ⟨(some 28), none, .load false 1 (t 27)⟩, ⟨(some 29), none, .iaddr 4 (t 28) (k (.int .i64 0))⟩, ⟨(some 30), none, .faddr 0 (t 29)⟩, ⟨(some 31), none, .load false 1 (t 30)⟩, ⟨(some 32), none, .bin .add (k (.int .i64 10)) (t 31)⟩, ⟨(some 2), none, .mv (t 32)⟩])
  .ret)
  .skip)))))
  (.seq (.reg [⟨(some 33), none, .faddr 0 (t 1)⟩, ⟨(some 34), none, .load false 1 (t 33)⟩, ⟨(some 2), none, .mv (t 34)⟩])
  .ret)))
theorem fn67 : Fn Go.Proofs.Try.prog 67 35 [.inl 2] c67 :=
  ⟨⟨_, _, Go.Proofs.Try.func67, rfl, by kernel_rfl, Go.Proofs.Try.ntmps67, by kernel_rfl, ⟨fun f => imp.contains f, false⟩, by kernel_rfl⟩⟩

def c74 : C :=
  (.seq (.reg [⟨(some 3), none, .box (t 0)⟩, ⟨(some 4), none, .box (t 1)⟩, ⟨(some 5), none, .box (t 2)⟩, ⟨(some 6), none, .alloc [(.int .i64 0), (.int .i64 0), (.str []), .nils]⟩, ⟨(some 7), none, .mv (k (.bool false))⟩])
  (.seq (.reg [⟨(some 9), none, .faddr 2 (t 3)⟩, ⟨(some 10), none, .load false 1 (t 9)⟩, ⟨(some 11), none, .mkfn 90 [] [(t 4), (t 5)]⟩, ⟨(some 12), none, .pcall (k (.fn 89 [] [])) [(t 10), (t 11)]⟩, ⟨(some 8), none, .mv (t 12)⟩])
  (.seq (.seq (.reg [⟨(some 13), none, .mv (t 8)⟩, ⟨(some 14), none, .bin .lss (t 13) (k (.int .i64 0))⟩])
  (.cond (t 14)
  (.seq (.reg [⟨(some 15), none, .build [(.int .i64 0), (.int .i64 0), (.str []), .nils] []⟩, ⟨none, none, .store 4 (t 6) (t 15)⟩, ⟨(some 7), none, .mv (k (.bool false))⟩])
  .ret)
  .skip))
  (.seq (.reg [⟨(some 16), none, .faddr 2 (t 3)⟩, ⟨(some 17), none, .load false 1 (t 16)⟩, ⟨(some 18), none, .mv (t 8)⟩, ⟨(some 19), none, .iaddr 6 (t 17) (t 18)⟩, ⟨(some 20), none, .faddr 2 (t 19)⟩, ⟨(some 21), none, .load true 4 (t 20)⟩, ⟨none, none, .store 4 (t 6) (t 21)⟩, ⟨(some 7), none, .mv (k (.bool true))⟩])
  .ret))))
theorem fn74 : Fn Go.Proofs.Try.prog 74 22 [.inr (6, true, 4), .inl 7] c74 :=
  ⟨⟨_, _, Go.Proofs.Try.func74, rfl, by kernel_rfl, Go.Proofs.Try.ntmps74, by kernel_rfl, ⟨fun f => imp.contains f, false⟩, by kernel_rfl⟩⟩

def c80 : C :=
  (.seq (.reg [⟨(some 2), none, .box (t 0)⟩, ⟨(some 3), none, .box (t 1)⟩, ⟨(some 4), none, .mv (k (.bool false))⟩, ⟨(some 5), none, .mv (k (.int .i64 0))⟩])
  (.seq (.block 0
  (.seq (.reg [⟨(some 7), none, .load true 4 (t 2)⟩, ⟨(some 8), none, .pcall (k (.fn 40 [] [])) [(t 7)]⟩, ⟨(some 9), none, .un .not (t 8)⟩, ⟨(some 10), none, .mv (t 9)⟩, ⟨(some 11), (some (10, false)), .load true 4 (t 3)⟩, ⟨(some 12), (some (10, false)), .pcall (k (.fn 40 [] [])) [(t 11)]⟩, ⟨(some 13), (some (10, false)), .un .not (t 12)⟩, ⟨(some 14), none, .pick (t 10) (k (.bool true)) (t 13)⟩, ⟨(some 6), none, .mv (t 14)⟩])
  (.cond (t 6)
  (.seq (.reg [⟨(some 4), none, .mv (k (.bool false))⟩, ⟨(some 5), none, .mv (k (.int .i64 1))⟩])
  .ret)
  (.seq (.reg [⟨(some 16), none, .faddr 0 (t 3)⟩, ⟨(some 17), none, .load false 1 (t 16)⟩, ⟨(some 18), none, .bin .neq (t 17) (k (.int .i64 5))⟩, ⟨(some 19), none, .mv (t 18)⟩, ⟨(some 20), (some (19, false)), .faddr 0 (t 2)⟩, ⟨(some 21), (some (19, false)), .load false 1 (t 20)⟩, ⟨(some 22), (some (19, false)), .bin .eql (t 21) (k (.int .i64 0))⟩, ⟨(some 23), none, .pick (t 19) (k (.bool true)) (t 22)⟩, ⟨(some 24), none, .mv (t 23)⟩, ⟨(some 25), (some (24, false)), .faddr 0 (t 2)⟩, ⟨(some 26), (some (24, false)), .load false 1 (t 25)⟩, ⟨(some 27), (some (24, false)), .bin .eql (t 26) (k (.int .i64 5))⟩, ⟨(some 28), none, .pick (t 24) (k (.bool true)) (t 27)⟩, ⟨(some 15), none, .mv (t 28)⟩])
  (.cond (t 15)
  (.seq (.reg [⟨(some 4), none, .mv (k (.bool false))⟩, ⟨(some 5), none, .mv (k (.int .i64 6))⟩])
  .ret)
  (.seq (.draw 0 [(⟨(some 30), none, .faddr 3 (t 3)⟩, []), (⟨(some 31), none, .load false 1 (t 30)⟩, []), (⟨(some 32), none, .len (t 31)⟩, []), (⟨(some 33), none, .bin .gtr (t 32) (k (.int .i64 0))⟩, []), (⟨(some 34), none, .mv (t 33)⟩, []), (⟨(some 35), (some (34, true)), .faddr 3 (t 3)⟩, []), (⟨(some 36), (some (34, true)), .load false 1 (t 35)⟩, []), (⟨(some 37), (some (34, true)), .iaddr 4 (t 36) (k (.int .i64 0))⟩, []), (⟨(some 38), (some (34, true)), .faddr 0 (t 37)⟩, []), (⟨(some 39), (some (34, true)), .load false 1 (t 38)⟩, []), (⟨(some 40), (some (34, true)), .faddr 0 (t 2)⟩, []), (⟨(some 41), (some (34, true)), .load false 1 (t 40)⟩, []), (⟨(some 42), (some (34, true)), .bin .neq (t 39) (t 41)⟩, []), (⟨(some 43), none, .pick (t 34) (t 42) (k (.bool false))⟩, []), (⟨(some 29), none, .mv (t 43)⟩, [])])
  (.cond (t 29)
  (.seq (.reg [⟨(some 4), none, .mv (k (.bool false))⟩, ⟨(some 5), none, .mv (k (.int .i64 6))⟩])
  .ret)
  .skip)))))))
  (.seq (.reg [⟨(some 44), none, .faddr 3 (t 3)⟩, ⟨(some 45), none, .load false 1 (t 44)⟩, ⟨(some 46), none, .mkfn 98 [] [(t 2)]⟩, ⟨(some 47), none, .pcall (k (.fn 97 [] [])) [(t 45), (t 46)]⟩, ⟨(some 4), none, .mv (t 47)⟩, ⟨(some 5), none, .mv (k (.int .i64 0))⟩])
  .ret)))
theorem fn80 : Fn Go.Proofs.Try.prog 80 48 [.inl 4, .inl 5] c80 :=
  ⟨⟨_, _, Go.Proofs.Try.func80, rfl, by kernel_rfl, Go.Proofs.Try.ntmps80, by kernel_rfl, ⟨fun f => imp.contains f, false⟩, by kernel_rfl⟩⟩

def c81 : C :=
  (.seq (.reg [⟨(some 4), none, .box (t 1)⟩, ⟨(some 5), none, .box (t 2)⟩, ⟨(some 6), none, .mv (k (.bool false))⟩, ⟨(some 7), none, .mv (k (.int .i64 0))⟩])
  (.seq (.seq (.reg [⟨(some 10), none, .load true 4 (t 4)⟩, ⟨(some 11), none, .pcall (k (.fn 40 [] [])) [(t 10)]⟩, ⟨(some 12), none, .un .not (t 11)⟩, ⟨(some 13), none, .mv (t 12)⟩, ⟨(some 14), (some (13, false)), .load true 4 (t 5)⟩, ⟨(some 15), (some (13, false)), .pcall (k (.fn 40 [] [])) [(t 14)]⟩, ⟨(some 16), (some (13, false)), .un .not (t 15)⟩, ⟨(some 17), none, .pick (t 13) (k (.bool true)) (t 16)⟩, ⟨(some 18), none, .mv (t 17)⟩, ⟨(some 19), (some (18, false)), .bsl 1 [(k (.str [61, 61])), (k (.str [33, 61])), (k (.str [60])), (k (.str [60, 61])), (k (.str [62])), (k (.str [62, 61]))]⟩, ⟨(some 20), (some (18, false)), .mv (t 0)⟩, ⟨(some 21), (some (18, false)), .pcall (k (.fn 73 [] [])) [(t 19), (t 20)]⟩, ⟨(some 22), (some (18, false)), .un .not (t 21)⟩, ⟨(some 23), none, .pick (t 18) (k (.bool true)) (t 22)⟩])
  (.cond (t 23)
  (.seq (.reg [⟨(some 6), none, .mv (k (.bool false))⟩, ⟨(some 7), none, .mv (k (.int .i64 1))⟩])
  .ret)
  .skip))
  (.seq (.reg [⟨(some 24), none, .faddr 0 (t 4)⟩, ⟨(some 25), none, .load false 1 (t 24)⟩, ⟨(some 26), none, .bin .eql (t 25) (k (.int .i64 1))⟩, ⟨(some 27), none, .mv (t 26)⟩, ⟨(some 28), (some (27, false)), .faddr 0 (t 4)⟩, ⟨(some 29), (some (27, false)), .load false 1 (t 28)⟩, ⟨(some 30), (some (27, false)), .bin .eql (t 29) (k (.int .i64 5))⟩, ⟨(some 31), none, .pick (t 27) (k (.bool true)) (t 30)⟩, ⟨(some 8), none, .mv (t 31)⟩])
  (.seq (.seq (.reg [⟨(some 32), none, .faddr 0 (t 4)⟩, ⟨(some 33), none, .load false 1 (t 32)⟩, ⟨(some 34), none, .bin .eql (t 33) (k (.int .i64 0))⟩, ⟨(some 35), none, .mv (t 34)⟩, ⟨(some 36), (some (35, false)), .faddr 0 (t 4)⟩, ⟨(some 37), (some (35, false)), .load false 1 (t 36)⟩, ⟨(some 38), (some (35, false)), .faddr 0 (t 5)⟩, ⟨(some 39), (some (35, false)), .load false 1 (t 38)⟩, ⟨(some 40), (some (35, false)), .bin .neq (t 37) (t 39)⟩, ⟨(some 41), none, .pick (t 35) (k (.bool true)) (t 40)⟩, ⟨(some 42), none, .mv (t 41)⟩, ⟨(some 43), (some (42, false)), .mv (t 8)⟩, ⟨(some 44), (some (42, false)), .mv (t 43)⟩, ⟨(some 45), (some (44, true)), .mv (t 0)⟩, ⟨(some 46), (some (44, true)), .bin .neq (t 45) (k (.str [61, 61]))⟩, ⟨(some 47), (some (42, false)), .pick (t 44) (t 46) (k (.bool false))⟩, ⟨(some 48), (some (42, false)), .mv (t 47)⟩, ⟨(some 49), (some (48, true)), .mv (t 0)⟩, ⟨(some 50), (some (48, true)), .bin .neq (t 49) (k (.str [33, 61]))⟩, ⟨(some 51), (some (42, false)), .pick (t 48) (t 50) (k (.bool false))⟩, ⟨(some 52), none, .pick (t 42) (k (.bool true)) (t 51)⟩])
  (.cond (t 52)
  (.seq (.reg [⟨(some 6), none, .mv (k (.bool false))⟩, ⟨(some 7), none, .mv (k (.int .i64 6))⟩])
  .ret)
  .skip))
  (.seq (.reg [⟨(some 53), none, .load true 4 (t 4)⟩, ⟨(some 54), none, .load true 4 (t 5)⟩, ⟨(some 55), none, .pcall (k (.fn 59 [] [])) [(t 53), (t 54)]⟩, ⟨(some 9), none, .mv (t 55)⟩])
  (.seq (.seq (.reg [⟨(some 56), none, .mv (t 0)⟩])
  (.block 0
  (.seq (.reg [⟨(some 58), none, .bin .eql (t 56) (k (.str [61, 61]))⟩, ⟨(some 57), none, .mv (t 58)⟩])
  (.cond (t 57)
  (.seq (.reg [⟨(some 59), none, .mv (t 9)⟩, ⟨(some 60), none, .bin .eql (t 59) (k (.int .i64 0))⟩, ⟨(some 6), none, .mv (t 60)⟩, ⟨(some 7), none, .mv (k (.int .i64 0))⟩])
  .ret)
  (.seq (.reg [⟨(some 62), none, .bin .eql (t 56) (k (.str [33, 61]))⟩, ⟨(some 61), none, .mv (t 62)⟩])
  (.cond (t 61)
  (.seq (.reg [⟨(some 63), none, .mv (t 9)⟩, ⟨(some 64), none, .bin .neq (t 63) (k (.int .i64 0))⟩, ⟨(some 6), none, .mv (t 64)⟩, ⟨(some 7), none, .mv (k (.int .i64 0))⟩])
  .ret)
  (.seq (.reg [⟨(some 66), none, .bin .eql (t 56) (k (.str [60]))⟩, ⟨(some 65), none, .mv (t 66)⟩])
  (.cond (t 65)
  (.seq (.reg [⟨(some 67), none, .mv (t 9)⟩, ⟨(some 68), none, .bin .lss (t 67) (k (.int .i64 0))⟩, ⟨(some 6), none, .mv (t 68)⟩, ⟨(some 7), none, .mv (k (.int .i64 0))⟩])
  .ret)
  (.seq (.reg [⟨(some 70), none, .bin .eql (t 56) (k (.str [60, 61]))⟩, ⟨(some 69), none, .mv (t 70)⟩])
  (.cond (t 69)
  (.seq (.reg [⟨(some 71), none, .mv (t 9)⟩, ⟨(some 72), none, .bin .leq (t 71) (k (.int .i64 0))⟩, ⟨(some 6), none, .mv (t 72)⟩, ⟨(some 7), none, .mv (k (.int .i64 0))⟩])
  .ret)
  (.seq (.reg [⟨(some 74), none, .bin .eql (t 56) (k (.str [62]))⟩, ⟨(some 73), none, .mv (t 74)⟩])
  (.cond (t 73)
  (.seq (.reg [⟨(some 75), none, .mv (t 9)⟩, ⟨(some 76), none, .bin .gtr (t 75) (k (.int .i64 0))⟩, ⟨(some 6), none, .mv (t 76)⟩, ⟨(some 7), none, .mv (k (.int .i64 0))⟩])
  .ret)
  .skip))))))))))))
  (.seq (.reg [⟨(some 77), none, .mv (t 9)⟩, ⟨(some 78), none, .bin .geq (t 77) (k (.int .i64 0))⟩, ⟨(some 6), none, .mv (t 78)⟩, ⟨(some 7), none, .mv (k (.int .i64 0))⟩])
  .ret)))))))
theorem fn81 : Fn Go.Proofs.Try.prog 81 79 [.inl 6, .inl 7] c81 :=
  ⟨⟨_, _, Go.Proofs.Try.func81, rfl, by kernel_rfl, Go.Proofs.Try.ntmps81, by kernel_rfl, ⟨fun f => imp.contains f, false⟩, by kernel_rfl⟩⟩

def c85 : C :=
  (.seq (.reg [⟨(some 4), none, .mv (k (.int .i64 0))⟩])
  (.seq (.reg [⟨(some 5), none, .mv (t 0)⟩, ⟨(some 6), none, .mv (t 1)⟩, ⟨(some 7), none, .pcall (k (.fn 101 [] [])) [(t 5), (t 6)]⟩, ⟨(some 4), none, .mv (t 7)⟩])
  .ret))
theorem fn85 : Fn Go.Proofs.Try.prog 85 8 [.inl 4] c85 :=
  ⟨⟨_, _, Go.Proofs.Try.func85, rfl, by kernel_rfl, Go.Proofs.Try.ntmps85, by kernel_rfl, ⟨fun f => imp.contains f, false⟩, by kernel_rfl⟩⟩

def c91 : C :=
  (.seq (.reg [⟨(some 2), none, .box (t 0)⟩, ⟨(some 3), none, .box (t 1)⟩, ⟨(some 4), none, .alloc [(.int .i64 0), (.int .i64 0)]⟩])
  (.seq (.reg [⟨(some 5), none, .faddr 0 (t 2)⟩, ⟨(some 6), none, .load false 1 (t 5)⟩, ⟨(some 7), none, .faddr 0 (t 3)⟩, ⟨(some 8), none, .load false 1 (t 7)⟩, ⟨(some 9), none, .build [(.int .i64 0), (.int .i64 0)] [(0, 1, (t 6)), (1, 1, (t 8))]⟩, ⟨none, none, .store 2 (t 4) (t 9)⟩])
  .ret))
theorem fn91 : Fn Go.Proofs.Try.prog 91 10 [.inr (4, true, 2)] c91 :=
  ⟨⟨_, _, Go.Proofs.Try.func91, rfl, by kernel_rfl, Go.Proofs.Try.ntmps91, by kernel_rfl, ⟨fun f => imp.contains f, false⟩, by kernel_rfl⟩⟩

def c104 : C :=
  (.seq (.reg [⟨(some 4), none, .mv (k (.int .i64 0))⟩])
  (.seq (.seq (.reg [⟨(some 6), none, .mv (t 0)⟩, ⟨(some 7), none, .len (t 6)⟩, ⟨(some 8), none, .mv (k (.int .i64 0))⟩])
  (.block 0
  (.loop
  (.seq (.reg [⟨(some 9), none, .bin .lss (t 8) (t 7)⟩])
  (.seq (.cond (t 9)
  .skip
  (.exit 0))
  (.seq (.block 1
  (.seq (.reg [⟨(some 10), none, .mv (t 8)⟩, ⟨(some 5), none, .mv (t 10)⟩])
  (.seq (.reg [⟨(some 11), none, .mv (t 1)⟩, ⟨(some 12), none, .mv (t 0)⟩, ⟨(some 13), none, .mv (t 5)⟩, ⟨(some 14), none, .iaddr 4 (t 12) (t 13)⟩, ⟨(some 15), none, .load true 4 (t 14)⟩, ⟨(some 16), none, .pcall (t 11) [(t 15)]⟩])
  (.cond (t 16)
  (.seq (.reg [⟨(some 17), none, .mv (t 5)⟩, ⟨(some 4), none, .mv (t 17)⟩])
  .ret)
  .skip))))
  (.reg [⟨(some 18), none, .bin .add (t 8) (k (.int .i64 1))⟩, ⟨(some 8), none, .mv (t 18)⟩])))))))
  (.seq (.reg [⟨(some 4), none, .mv (k (.int .i64 (-1)))⟩])
  .ret)))
theorem fn104 : Fn Go.Proofs.Try.prog 104 19 [.inl 4] c104 :=
  ⟨⟨_, _, Go.Proofs.Try.func104, rfl, by kernel_rfl, Go.Proofs.Try.ntmps104, by kernel_rfl, ⟨fun f => imp.contains f, false⟩, by kernel_rfl⟩⟩

end GP
namespace GP
open Go Go.Proofs
open Rd O
set_option maxRecDepth 100000
def c13 : C :=
  (.seq (.reg [⟨(some 1), none, .box (t 0)⟩, ⟨(some 2), none, .mv (k (.bool false))⟩])
  (.seq (.seq (.reg [⟨(some 3), none, .mv (k (.int .i64 0))⟩])
  (.block 0
  (.loop
  (.seq (.seq (.reg [⟨(some 5), none, .mv (t 3)⟩, ⟨(some 6), none, .faddr 2 (t 1)⟩, ⟨(some 7), none, .load false 1 (t 6)⟩, ⟨(some 8), none, .len (t 7)⟩, ⟨(some 9), none, .bin .lss (t 5) (t 8)⟩, ⟨(some 10), none, .mv (t 9)⟩, ⟨(some 11), (some (10, true)), .mv (t 3)⟩, ⟨(some 12), (some (10, true)), .bin .lss (t 11) (k (.int .i64 30))⟩, ⟨(some 13), none, .pick (t 10) (t 12) (k (.bool false))⟩])
  (.cond (t 13)
  .skip
  (.exit 0)))
  (.seq (.block 1
  (.seq (.reg [⟨(some 16), none, .faddr 2 (t 1)⟩, ⟨(some 17), none, .load false 1 (t 16)⟩, ⟨(some 18), none, .mv (t 3)⟩, ⟨(some 19), none, .iaddr 6 (t 17) (t 18)⟩, ⟨(some 20), none, .faddr 0 (t 19)⟩, ⟨(some 21), none, .load false 1 (t 20)⟩, ⟨(some 22), none, .lens (t 21)⟩, ⟨(some 23), none, .bin .gtr (t 22) (k (.int .i64 200))⟩, ⟨(some 24), none, .mv (t 23)⟩, ⟨(some 25), (some (24, false)), .faddr 2 (t 1)⟩, ⟨(some 26), (some (24, false)), .load false 1 (t 25)⟩, ⟨(some 27), (some (24, false)), .mv (t 3)⟩, ⟨(some 28), (some (24, false)), .iaddr 6 (t 26) (t 27)⟩, ⟨(some 29), (some (24, false)), .faddr 1 (t 28)⟩, ⟨(some 30), (some (24, false)), .load false 1 (t 29)⟩, ⟨(some 31), (some (24, false)), .lens (t 30)⟩, ⟨(some 32), (some (24, false)), .bin .gtr (t 31) (k (.int .i64 200))⟩, ⟨(some 33), none, .pick (t 24) (k (.bool true)) (t 32)⟩, ⟨(some 34), none, .mv (t 33)⟩, ⟨(some 35), (some (34, false)), .faddr 2 (t 1)⟩, ⟨(some 36), (some (34, false)), .load false 1 (t 35)⟩, ⟨(some 37), (some (34, false)), .mv (t 3)⟩, ⟨(some 38), (some (34, false)), .iaddr 6 (t 36) (t 37)⟩, ⟨(some 39), (some (34, false)), .faddr 2 (t 38)⟩, ⟨(some 40), (some (34, false)), .load true 4 (t 39)⟩, ⟨(some 41), (some (34, false)), .bsl 4 [(t 40)]⟩, ⟨(some 42), (some (34, false)), .pcall (k (.fn 19 [] [])) [(t 41), (k (.int .i64 1))]⟩, ⟨(some 43), (some (34, false)), .un .not (t 42)⟩, ⟨(some 44), none, .pick (t 34) (k (.bool true)) (t 43)⟩])
  (.cond (t 44)
  (.seq (.reg [⟨(some 2), none, .mv (k (.bool false))⟩])
  .ret)
  .skip)))
  (.reg [⟨(some 14), none, .mv (t 3)⟩, ⟨(some 15), none, .bin .add (t 14) (k (.int .i64 1))⟩, ⟨(some 3), none, .mv (t 15)⟩]))))))
  (.seq (.seq (.reg [⟨(some 4), none, .mv (k (.int .i64 0))⟩])
  (.block 2
  (.loop
  (.seq (.seq (.reg [⟨(some 45), none, .mv (t 4)⟩, ⟨(some 46), none, .faddr 1 (t 1)⟩, ⟨(some 47), none, .load false 1 (t 46)⟩, ⟨(some 48), none, .len (t 47)⟩, ⟨(some 49), none, .bin .lss (t 45) (t 48)⟩, ⟨(some 50), none, .mv (t 49)⟩, ⟨(some 51), (some (50, true)), .mv (t 4)⟩, ⟨(some 52), (some (50, true)), .bin .lss (t 51) (k (.int .i64 30))⟩, ⟨(some 53), none, .pick (t 50) (t 52) (k (.bool false))⟩])
  (.cond (t 53)
  .skip
  (.exit 2)))
  (.seq (.block 3
  (.seq (.reg [⟨(some 56), none, .faddr 1 (t 1)⟩, ⟨(some 57), none, .load false 1 (t 56)⟩, ⟨(some 58), none, .mv (t 4)⟩, ⟨(some 59), none, .iaddr 1 (t 57) (t 58)⟩, ⟨(some 60), none, .load false 1 (t 59)⟩, ⟨(some 61), none, .lens (t 60)⟩, ⟨(some 62), none, .bin .gtr (t 61) (k (.int .i64 200))⟩])
  (.cond (t 62)
  (.seq (.reg [⟨(some 2), none, .mv (k (.bool false))⟩])
  .ret)
  .skip)))
  (.reg [⟨(some 54), none, .mv (t 4)⟩, ⟨(some 55), none, .bin .add (t 54) (k (.int .i64 1))⟩, ⟨(some 4), none, .mv (t 55)⟩]))))))
  (.seq (.reg [⟨(some 63), none, .faddr 2 (t 1)⟩, ⟨(some 64), none, .load false 1 (t 63)⟩, ⟨(some 65), none, .len (t 64)⟩, ⟨(some 66), none, .bin .leq (t 65) (k (.int .i64 20))⟩, ⟨(some 67), none, .mv (t 66)⟩, ⟨(some 68), (some (67, true)), .faddr 1 (t 1)⟩, ⟨(some 69), (some (67, true)), .load false 1 (t 68)⟩, ⟨(some 70), (some (67, true)), .len (t 69)⟩, ⟨(some 71), (some (67, true)), .bin .leq (t 70) (k (.int .i64 20))⟩, ⟨(some 72), none, .pick (t 67) (t 71) (k (.bool false))⟩, ⟨(some 2), none, .mv (t 72)⟩])
  .ret))))
theorem fn13 : Fn Go.Proofs.Try.prog 13 73 [.inl 2] c13 :=
  ⟨⟨_, _, Go.Proofs.Try.func13, rfl, by kernel_rfl, Go.Proofs.Try.ntmps13, by kernel_rfl, ⟨fun f => imp.contains f, false⟩, by kernel_rfl⟩⟩

def c15 : C :=
  (.seq (.reg [⟨(some 3), none, .box (t 1)⟩, ⟨(some 4), none, .mv (k (.int .i64 0))⟩, ⟨(some 5), none, .mv (k (.int .i64 0))⟩])
  (.seq (.reg [⟨(some 13), none, .faddr 0 (t 3)⟩, ⟨(some 14), none, .load false 1 (t 13)⟩, ⟨(some 15), none, .pcall (k (.fn 32 [] [])) [(t 14)]⟩, ⟨(some 6), none, .mv (t 15)⟩])
  (.seq (.seq (.reg [⟨(some 16), none, .mv (t 6)⟩, ⟨(some 17), none, .bin .lss (t 16) (k (.int .i64 0))⟩, ⟨(some 18), none, .mv (t 17)⟩, ⟨(some 19), (some (18, false)), .faddr 7 (t 3)⟩, ⟨(some 20), (some (18, false)), .load false 1 (t 19)⟩, ⟨(some 21), (some (18, false)), .len (t 20)⟩, ⟨(some 22), (some (18, false)), .mv (t 6)⟩, ⟨(some 23), (some (18, false)), .bin .neq (t 21) (t 22)⟩, ⟨(some 24), none, .pick (t 18) (k (.bool true)) (t 23)⟩])
  (.cond (t 24)
  (.seq (.reg [⟨(some 4), none, .mv (k (.int .i64 0))⟩, ⟨(some 5), none, .mv (k (.int .i64 2))⟩])
  .ret)
  .skip))
  (.seq (.seq (.reg [⟨(some 25), none, .mv (t 6)⟩, ⟨(some 26), none, .bin .eql (t 25) (k (.int .i64 0))⟩])
  (.cond (t 26)
  (.seq (.reg [⟨(some 27), none, .mv (t 0)⟩, ⟨(some 28), none, .load true 8 (t 3)⟩, ⟨(some 29), none, .pcall (k (.fn 33 [] [])) [(t 27), (t 28)]⟩, ⟨(some 30), none, .ext 0 (t 29)⟩, ⟨(some 31), none, .ext 1 (t 29)⟩, ⟨(some 4), none, .mv (t 30)⟩, ⟨(some 5), none, .mv (t 31)⟩])
  .ret)
  .skip))
  (.seq (.reg [⟨(some 32), none, .build [(.int .i64 0), (.int .i64 0)] []⟩, ⟨(some 7), none, .alloc [(.int .i64 0), (.int .i64 0)]⟩, ⟨none, none, .store 2 (t 7) (t 32)⟩])
  (.seq (.seq (.reg [⟨(some 8), none, .mv (k (.int .i64 0))⟩])
  (.block 0
  (.loop
  (.seq (.seq (.reg [⟨(some 33), none, .mv (t 8)⟩, ⟨(some 34), none, .mv (t 6)⟩, ⟨(some 35), none, .bin .lss (t 33) (t 34)⟩])
  (.cond (t 35)
  .skip
  (.exit 0)))
  (.seq (.block 1
  (.seq (.reg [⟨(some 39), none, .mv (t 0)⟩, ⟨(some 40), none, .faddr 7 (t 3)⟩, ⟨(some 41), none, .load false 1 (t 40)⟩, ⟨(some 42), none, .mv (t 8)⟩, ⟨(some 43), none, .iaddr 8 (t 41) (t 42)⟩, ⟨(some 44), none, .load true 8 (t 43)⟩, ⟨(some 45), none, .pcall (k (.fn 15 [] [])) [(t 39), (t 44)]⟩, ⟨(some 38), none, .mv (t 45)⟩, ⟨(some 46), none, .ext 0 (t 38)⟩, ⟨(some 47), none, .ext 1 (t 38)⟩, ⟨(some 9), none, .mv (t 46)⟩, ⟨(some 10), none, .mv (t 47)⟩])
  (.seq (.seq (.reg [⟨(some 48), none, .mv (t 10)⟩, ⟨(some 49), none, .bin .neq (t 48) (k (.int .i64 0))⟩])
  (.cond (t 49)
  (.seq (.reg [⟨(some 50), none, .mv (t 10)⟩, ⟨(some 4), none, .mv (k (.int .i64 0))⟩, ⟨(some 5), none, .mv (t 50)⟩])
  .ret)
  .skip))
  (.reg [⟨(some 51), none, .mv (t 8)⟩, ⟨(some 52), none, .mv (t 9)⟩, ⟨(some 53), none, .iarr 1 2 (t 7) (t 51)⟩, ⟨none, none, .store 1 (t 53) (t 52)⟩]))))
  (.reg [⟨(some 36), none, .mv (t 8)⟩, ⟨(some 37), none, .bin .add (t 36) (k (.int .i64 1))⟩, ⟨(some 8), none, .mv (t 37)⟩]))))))
  (.seq (.reg [⟨(some 54), none, .pcall (k (.fn 34 [] [])) []⟩, ⟨(some 11), none, .mv (t 54)⟩])
  (.seq (.seq (.reg [⟨(some 12), none, .mv (k (.int .i64 0))⟩])
  (.block 2
  (.loop
  (.seq (.seq (.reg [⟨(some 55), none, .mv (t 12)⟩, ⟨(some 56), none, .mv (t 11)⟩, ⟨(some 57), none, .len (t 56)⟩, ⟨(some 58), none, .bin .lss (t 55) (t 57)⟩])
  (.cond (t 58)
  .skip
  (.exit 2)))
  (.seq (.block 3
  (.seq (.draw 0 [(⟨(some 61), none, .mv (t 11)⟩, []), (⟨(some 62), none, .mv (t 12)⟩, []), (⟨(some 63), none, .iaddr 4 (t 61) (t 62)⟩, []), (⟨(some 64), none, .faddr 0 (t 63)⟩, []), (⟨(some 65), none, .load false 1 (t 64)⟩, []), (⟨(some 66), none, .faddr 0 (t 3)⟩, []), (⟨(some 67), none, .load false 1 (t 66)⟩, []), (⟨(some 68), none, .bin .eql (t 65) (t 67)⟩, []), (⟨(some 69), none, .mv (t 68)⟩, []), (⟨(some 70), (some (69, true)), .mv (t 11)⟩, []), (⟨(some 71), (some (69, true)), .mv (t 12)⟩, []), (⟨(some 72), (some (69, true)), .iaddr 4 (t 70) (t 71)⟩, []), (⟨(some 73), (some (69, true)), .faddr 1 (t 72)⟩, []), (⟨(some 74), (some (69, true)), .load false 1 (t 73)⟩, []), (⟨(some 75), (some (69, true)), .iarr 1 2 (t 7) (k (.int .i64 0))⟩, []), (⟨(some 76), (some (69, true)), .load false 1 (t 75)⟩, []), (⟨(some 77), (some (69, true)), .bin .eql (t 74) (t 76)⟩, []), (⟨(some 78), none, .pick (t 69) (t 77) (k (.bool false))⟩, []), (⟨(some 79), none, .mv (t 78)⟩, []), (⟨(some 80), (some (79, true)), .mv (t 11)⟩, []), (⟨(some 81), (some (79, true)), .mv (t 12)⟩, []), (⟨(some 82), (some (79, true)), .iaddr 4 (t 80) (t 81)⟩, []), (⟨(some 83), (some (79, true)), .faddr 2 (t 82)⟩, []), (⟨(some 84), (some (79, true)), .load false 1 (t 83)⟩, []), (⟨(some 85), (some (79, true)), .iarr 1 2 (t 7) (k (.int .i64 1))⟩, []), (⟨(some 86), (some (79, true)), .load false 1 (t 85)⟩, []), (⟨(some 87), (some (79, true)), .bin .eql (t 84) (t 86)⟩, []), (⟨(some 88), none, .pick (t 79) (t 87) (k (.bool false))⟩, [])])
  (.cond (t 88)
  (.seq (.reg [⟨(some 89), none, .mv (t 11)⟩, ⟨(some 90), none, .mv (t 12)⟩, ⟨(some 91), none, .iaddr 4 (t 89) (t 90)⟩, ⟨(some 92), none, .faddr 3 (t 91)⟩, ⟨(some 93), none, .load false 1 (t 92)⟩, ⟨(some 4), none, .mv (t 93)⟩, ⟨(some 5), none, .mv (k (.int .i64 0))⟩])
  .ret)
  .skip)))
  (.reg [⟨(some 59), none, .mv (t 12)⟩, ⟨(some 60), none, .bin .add (t 59) (k (.int .i64 1))⟩, ⟨(some 12), none, .mv (t 60)⟩]))))))
  (.seq (.reg [⟨(some 4), none, .mv (k (.int .i64 0))⟩, ⟨(some 5), none, .mv (k (.int .i64 6))⟩])
  .ret)))))))))
theorem fn15 : Fn Go.Proofs.Try.prog 15 94 [.inl 4, .inl 5] c15 :=
  ⟨⟨_, _, Go.Proofs.Try.func15, rfl, by kernel_rfl, Go.Proofs.Try.ntmps15, by kernel_rfl, ⟨fun f => imp.contains f, false⟩, by kernel_rfl⟩⟩

def c34 : C :=
  (.seq (.reg [⟨(some 0), none, .mv (k .nils)⟩])
  (.seq (.reg [⟨(some 4), none, .build [(.str []), (.int .i64 0), (.int .i64 0), (.int .i64 0)] [(0, 1, (k (.str [110, 111, 116]))), (1, 1, (k (.int .i64 1))), (3, 1, (k (.int .i64 1)))]⟩, ⟨(some 5), none, .build [(.str []), (.int .i64 0), (.int .i64 0), (.int .i64 0)] [(0, 1, (k (.str [110, 101, 103]))), (1, 1, (k (.int .i64 2))), (3, 1, (k (.int .i64 2)))]⟩, ⟨(some 6), none, .build [(.str []), (.int .i64 0), (.int .i64 0), (.int .i64 0)] [(0, 1, (k (.str [97, 110, 100]))), (1, 1, (k (.int .i64 1))), (2, 1, (k (.int .i64 1))), (3, 1, (k (.int .i64 1)))]⟩, ⟨(some 7), none, .build [(.str []), (.int .i64 0), (.int .i64 0), (.int .i64 0)] [(0, 1, (k (.str [111, 114]))), (1, 1, (k (.int .i64 1))), (2, 1, (k (.int .i64 1))), (3, 1, (k (.int .i64 1)))]⟩, ⟨(some 8), none, .build [(.str []), (.int .i64 0), (.int .i64 0), (.int .i64 0)] [(0, 1, (k (.str [43]))), (1, 1, (k (.int .i64 2))), (2, 1, (k (.int .i64 2))), (3, 1, (k (.int .i64 2)))]⟩, ⟨(some 9), none, .build [(.str []), (.int .i64 0), (.int .i64 0), (.int .i64 0)] [(0, 1, (k (.str [45]))), (1, 1, (k (.int .i64 2))), (2, 1, (k (.int .i64 2))), (3, 1, (k (.int .i64 2)))]⟩, ⟨(some 10), none, .build [(.str []), (.int .i64 0), (.int .i64 0), (.int .i64 0)] [(0, 1, (k (.str [42]))), (1, 1, (k (.int .i64 2))), (2, 1, (k (.int .i64 2))), (3, 1, (k (.int .i64 2)))]⟩, ⟨(some 11), none, .build [(.str []), (.int .i64 0), (.int .i64 0), (.int .i64 0)] [(0, 1, (k (.str [43]))), (1, 1, (k (.int .i64 4))), (2, 1, (k (.int .i64 2))), (3, 1, (k (.int .i64 4)))]⟩, ⟨(some 12), none, .build [(.str []), (.int .i64 0), (.int .i64 0), (.int .i64 0)] [(0, 1, (k (.str [45]))), (1, 1, (k (.int .i64 4))), (2, 1, (k (.int .i64 2))), (3, 1, (k (.int .i64 4)))]⟩, ⟨(some 13), none, .build [(.str []), (.int .i64 0), (.int .i64 0), (.int .i64 0)] [(0, 1, (k (.str [45]))), (1, 1, (k (.int .i64 4))), (2, 1, (k (.int .i64 4))), (3, 1, (k (.int .i64 2)))]⟩, ⟨(some 14), none, .bsl 4 [(t 4), (t 5), (t 6), (t 7), (t 8), (t 9), (t 10), (t 11), (t 12), (t 13)]⟩, ⟨(some 1), none, .mv (t 14)⟩])
  (.seq (.seq (.reg [⟨(some 2), none, .mv (k (.int .i64 1))⟩])
  (.block 0
  (.loop
  (.seq (.seq (.reg [⟨(some 15), none, .mv (t 2)⟩, ⟨(some 16), none, .bin .leq (t 15) (k (.int .i64 4))⟩])
  (.cond (t 16)
  .skip
  (.exit 0)))
  (.seq (.block 1
  (.reg [⟨(some 19), none, .mv (t 1)⟩, ⟨(some 20), none, .mv (t 2)⟩, ⟨(some 21), none, .bin .add (k (.int .i64 10)) (t 20)⟩, ⟨(some 22), none, .build [(.str []), (.int .i64 0), (.int .i64 0), (.int .i64 0)] [(0, 1, (k (.str [115, 105, 122, 101]))), (1, 1, (t 21)), (3, 1, (k (.int .i64 2)))]⟩, ⟨(some 23), none, .mv (t 2)⟩, ⟨(some 24), none, .mv (t 2)⟩, ⟨(some 25), none, .bin .add (k (.int .i64 10)) (t 24)⟩, ⟨(some 26), none, .build [(.str []), (.int .i64 0), (.int .i64 0), (.int .i64 0)] [(0, 1, (k (.str [105, 110]))), (1, 1, (t 23)), (2, 1, (t 25)), (3, 1, (k (.int .i64 1)))]⟩, ⟨(some 27), none, .mv (t 2)⟩, ⟨(some 28), none, .mv (t 2)⟩, ⟨(some 29), none, .build [(.str []), (.int .i64 0), (.int .i64 0), (.int .i64 0)] [(0, 1, (k (.str [61, 61]))), (1, 1, (t 27)), (2, 1, (t 28)), (3, 1, (k (.int .i64 1)))]⟩, ⟨(some 30), none, .mv (t 2)⟩, ⟨(some 31), none, .mv (t 2)⟩, ⟨(some 32), none, .build [(.str []), (.int .i64 0), (.int .i64 0), (.int .i64 0)] [(0, 1, (k (.str [33, 61]))), (1, 1, (t 30)), (2, 1, (t 31)), (3, 1, (k (.int .i64 1)))]⟩, ⟨(some 33), none, .mv (t 2)⟩, ⟨(some 34), none, .bin .add (k (.int .i64 10)) (t 33)⟩, ⟨(some 35), none, .mv (t 2)⟩, ⟨(some 36), none, .bin .add (k (.int .i64 10)) (t 35)⟩, ⟨(some 37), none, .build [(.str []), (.int .i64 0), (.int .i64 0), (.int .i64 0)] [(0, 1, (k (.str [61, 61]))), (1, 1, (t 34)), (2, 1, (t 36)), (3, 1, (k (.int .i64 1)))]⟩, ⟨(some 38), none, .mv (t 2)⟩, ⟨(some 39), none, .bin .add (k (.int .i64 10)) (t 38)⟩, ⟨(some 40), none, .mv (t 2)⟩, ⟨(some 41), none, .bin .add (k (.int .i64 10)) (t 40)⟩, ⟨(some 42), none, .build [(.str []), (.int .i64 0), (.int .i64 0), (.int .i64 0)] [(0, 1, (k (.str [33, 61]))), (1, 1, (t 39)), (2, 1, (t 41)), (3, 1, (k (.int .i64 1)))]⟩, ⟨(some 43), none, .bsl 4 [(t 22), (t 26), (t 29), (t 32), (t 37), (t 42)]⟩, ⟨(some 44), none, .app false 4 40 (t 19) (t 43)⟩, ⟨(some 1), none, .mv (t 44)⟩]))
  (.reg [⟨(some 17), none, .mv (t 2)⟩, ⟨(some 18), none, .bin .add (t 17) (k (.int .i64 1))⟩, ⟨(some 2), none, .mv (t 18)⟩]))))))
  (.seq (.seq (.reg [⟨(some 3), none, .mv (k (.int .i64 2))⟩])
  (.block 2
  (.loop
  (.seq (.seq (.reg [⟨(some 45), none, .mv (t 3)⟩, ⟨(some 46), none, .bin .leq (t 45) (k (.int .i64 4))⟩])
  (.cond (t 46)
  .skip
  (.exit 2)))
  (.seq (.block 3
  (.reg [⟨(some 49), none, .mv (t 1)⟩, ⟨(some 50), none, .mv (t 3)⟩, ⟨(some 51), none, .mv (t 3)⟩, ⟨(some 52), none, .build [(.str []), (.int .i64 0), (.int .i64 0), (.int .i64 0)] [(0, 1, (k (.str [60]))), (1, 1, (t 50)), (2, 1, (t 51)), (3, 1, (k (.int .i64 1)))]⟩, ⟨(some 53), none, .mv (t 3)⟩, ⟨(some 54), none, .mv (t 3)⟩, ⟨(some 55), none, .build [(.str []), (.int .i64 0), (.int .i64 0), (.int .i64 0)] [(0, 1, (k (.str [60, 61]))), (1, 1, (t 53)), (2, 1, (t 54)), (3, 1, (k (.int .i64 1)))]⟩, ⟨(some 56), none, .mv (t 3)⟩, ⟨(some 57), none, .mv (t 3)⟩, ⟨(some 58), none, .build [(.str []), (.int .i64 0), (.int .i64 0), (.int .i64 0)] [(0, 1, (k (.str [62]))), (1, 1, (t 56)), (2, 1, (t 57)), (3, 1, (k (.int .i64 1)))]⟩, ⟨(some 59), none, .mv (t 3)⟩, ⟨(some 60), none, .mv (t 3)⟩, ⟨(some 61), none, .build [(.str []), (.int .i64 0), (.int .i64 0), (.int .i64 0)] [(0, 1, (k (.str [62, 61]))), (1, 1, (t 59)), (2, 1, (t 60)), (3, 1, (k (.int .i64 1)))]⟩, ⟨(some 62), none, .bsl 4 [(t 52), (t 55), (t 58), (t 61)]⟩, ⟨(some 63), none, .app false 4 40 (t 49) (t 62)⟩, ⟨(some 1), none, .mv (t 63)⟩]))
  (.reg [⟨(some 47), none, .mv (t 3)⟩, ⟨(some 48), none, .bin .add (t 47) (k (.int .i64 1))⟩, ⟨(some 3), none, .mv (t 48)⟩]))))))
  (.seq (.reg [⟨(some 64), none, .mv (t 1)⟩, ⟨(some 0), none, .mv (t 64)⟩])
  .ret)))))
theorem fn34 : Fn Go.Proofs.Try.prog 34 65 [.inl 0] c34 :=
  ⟨⟨_, _, Go.Proofs.Try.func34, rfl, by kernel_rfl, Go.Proofs.Try.ntmps34, by kernel_rfl, ⟨fun f => imp.contains f, false⟩, by kernel_rfl⟩⟩

def c37 : C :=
  (.seq (.reg [⟨(some 1), none, .box (t 0)⟩, ⟨(some 2), none, .mv (k (.bool false))⟩])
  (.seq (.seq (.reg [⟨(some 3), none, .faddr 3 (t 1)⟩, ⟨(some 4), none, .load false 1 (t 3)⟩, ⟨(some 5), none, .len (t 4)⟩, ⟨(some 6), none, .bin .gtr (t 5) (k (.int .i64 0))⟩, ⟨(some 7), none, .mv (t 6)⟩, ⟨(some 8), (some (7, false)), .faddr 0 (t 1)⟩, ⟨(some 9), (some (7, false)), .load false 1 (t 8)⟩, ⟨(some 10), (some (7, false)), .bin .lss (t 9) (k (.int .i64 0))⟩, ⟨(some 11), none, .pick (t 7) (k (.bool true)) (t 10)⟩, ⟨(some 12), none, .mv (t 11)⟩, ⟨(some 13), (some (12, false)), .faddr 0 (t 1)⟩, ⟨(some 14), (some (12, false)), .load false 1 (t 13)⟩, ⟨(some 15), (some (12, false)), .bin .gtr (t 14) (k (.int .i64 4))⟩, ⟨(some 16), none, .pick (t 12) (k (.bool true)) (t 15)⟩])
  (.cond (t 16)
  (.seq (.reg [⟨(some 2), none, .mv (k (.bool false))⟩])
  .ret)
  .skip))
  (.seq (.seq (.reg [⟨(some 17), none, .faddr 0 (t 1)⟩, ⟨(some 18), none, .load false 1 (t 17)⟩, ⟨(some 19), none, .bin .eql (t 18) (k (.int .i64 3))⟩])
  (.cond (t 19)
  (.seq (.reg [⟨(some 20), none, .faddr 1 (t 1)⟩, ⟨(some 21), none, .load false 1 (t 20)⟩, ⟨(some 22), none, .bin .eql (t 21) (k (.int .i64 0))⟩, ⟨(some 23), none, .mv (t 22)⟩, ⟨(some 24), (some (23, true)), .faddr 2 (t 1)⟩, ⟨(some 25), (some (23, true)), .load false 1 (t 24)⟩, ⟨(some 26), (some (23, true)), .lens (t 25)⟩, ⟨(some 27), (some (23, true)), .bin .leq (t 26) (k (.int .i64 64))⟩, ⟨(some 28), none, .pick (t 23) (t 27) (k (.bool false))⟩, ⟨(some 2), none, .mv (t 28)⟩])
  .ret)
  .skip))
  (.seq (.seq (.reg [⟨(some 29), none, .faddr 2 (t 1)⟩, ⟨(some 30), none, .load false 1 (t 29)⟩, ⟨(some 31), none, .bin .neq (t 30) (k (.str []))⟩, ⟨(some 32), none, .mv (t 31)⟩, ⟨(some 33), (some (32, false)), .faddr 0 (t 1)⟩, ⟨(some 34), (some (32, false)), .load false 1 (t 33)⟩, ⟨(some 35), (some (32, false)), .bin .eql (t 34) (k (.int .i64 0))⟩, ⟨(some 36), (some (32, false)), .mv (t 35)⟩, ⟨(some 37), (some (36, true)), .faddr 1 (t 1)⟩, ⟨(some 38), (some (36, true)), .load false 1 (t 37)⟩, ⟨(some 39), (some (36, true)), .bin .neq (t 38) (k (.int .i64 0))⟩, ⟨(some 40), (some (32, false)), .pick (t 36) (t 39) (k (.bool false))⟩, ⟨(some 41), none, .pick (t 32) (k (.bool true)) (t 40)⟩, ⟨(some 42), none, .mv (t 41)⟩, ⟨(some 43), (some (42, false)), .faddr 0 (t 1)⟩, ⟨(some 44), (some (42, false)), .load false 1 (t 43)⟩, ⟨(some 45), (some (42, false)), .bin .eql (t 44) (k (.int .i64 1))⟩, ⟨(some 46), (some (42, false)), .mv (t 45)⟩, ⟨(some 47), (some (46, true)), .faddr 1 (t 1)⟩, ⟨(some 48), (some (46, true)), .load false 1 (t 47)⟩, ⟨(some 49), (some (46, true)), .bin .neq (t 48) (k (.int .i64 0))⟩, ⟨(some 50), (some (42, false)), .pick (t 46) (t 49) (k (.bool false))⟩, ⟨(some 51), (some (42, false)), .mv (t 50)⟩, ⟨(some 52), (some (51, true)), .faddr 1 (t 1)⟩, ⟨(some 53), (some (51, true)), .load false 1 (t 52)⟩, ⟨(some 54), (some (51, true)), .bin .neq (t 53) (k (.int .i64 1))⟩, ⟨(some 55), (some (42, false)), .pick (t 51) (t 54) (k (.bool false))⟩, ⟨(some 56), none, .pick (t 42) (k (.bool true)) (t 55)⟩])
  (.cond (t 56)
  (.seq (.reg [⟨(some 2), none, .mv (k (.bool false))⟩])
  .ret)
  .skip))
  (.seq (.reg [⟨(some 57), none, .faddr 0 (t 1)⟩, ⟨(some 58), none, .load false 1 (t 57)⟩, ⟨(some 59), none, .bin .neq (t 58) (k (.int .i64 4))⟩, ⟨(some 60), none, .mv (t 59)⟩, ⟨(some 61), (some (60, false)), .faddr 1 (t 1)⟩, ⟨(some 62), (some (60, false)), .load false 1 (t 61)⟩, ⟨(some 63), (some (60, false)), .bin .geq (t 62) (k (.int .i64 0))⟩, ⟨(some 64), (some (60, false)), .mv (t 63)⟩, ⟨(some 65), (some (64, true)), .faddr 1 (t 1)⟩, ⟨(some 66), (some (64, true)), .load false 1 (t 65)⟩, ⟨(some 67), (some (64, true)), .bin .leq (t 66) (k (.int .i64 1099511627776))⟩, ⟨(some 68), (some (60, false)), .pick (t 64) (t 67) (k (.bool false))⟩, ⟨(some 69), none, .pick (t 60) (k (.bool true)) (t 68)⟩, ⟨(some 2), none, .mv (t 69)⟩])
  .ret)))))
theorem fn37 : Fn Go.Proofs.Try.prog 37 70 [.inl 2] c37 :=
  ⟨⟨_, _, Go.Proofs.Try.func37, rfl, by kernel_rfl, Go.Proofs.Try.ntmps37, by kernel_rfl, ⟨fun f => imp.contains f, false⟩, by kernel_rfl⟩⟩

def c39 : C :=
  (.seq (.reg [⟨(some 2), none, .box (t 0)⟩, ⟨(some 3), none, .box (t 1)⟩, ⟨(some 4), none, .mv (k (.bool false))⟩, ⟨(some 5), none, .mv (k (.int .i64 0))⟩])
  (.seq (.reg [⟨(some 9), none, .load true 3 (t 2)⟩, ⟨(some 10), none, .load true 8 (t 3)⟩, ⟨(some 11), none, .pcall (k (.fn 36 [] [])) [(t 9), (t 10)]⟩, ⟨(some 8), none, .mv (t 11)⟩, ⟨(some 12), none, .ext 0 (t 8)⟩, ⟨(some 13), none, .ext 1 (t 8)⟩, ⟨(some 6), none, .alloc [(.int .i64 0), (.int .i64 0), (.str []), .nils]⟩, ⟨none, none, .store 4 (t 6) (t 12)⟩, ⟨(some 7), none, .mv (t 13)⟩])
  (.seq (.seq (.reg [⟨(some 14), none, .mv (t 7)⟩, ⟨(some 15), none, .bin .eql (t 14) (k (.int .i64 0))⟩, ⟨(some 16), none, .mv (t 15)⟩, ⟨(some 17), (some (16, true)), .faddr 0 (t 6)⟩, ⟨(some 18), (some (16, true)), .load false 1 (t 17)⟩, ⟨(some 19), (some (16, true)), .bin .neq (t 18) (k (.int .i64 1))⟩, ⟨(some 20), none, .pick (t 16) (t 19) (k (.bool false))⟩])
  (.cond (t 20)
  (.reg [⟨(some 7), none, .mv (k (.int .i64 6))⟩])
  .skip))
  (.seq (.reg [⟨(some 21), none, .mv (t 7)⟩, ⟨(some 22), none, .bin .eql (t 21) (k (.int .i64 0))⟩, ⟨(some 23), none, .mv (t 22)⟩, ⟨(some 24), (some (23, true)), .faddr 1 (t 6)⟩, ⟨(some 25), (some (23, true)), .load false 1 (t 24)⟩, ⟨(some 26), (some (23, true)), .bin .eql (t 25) (k (.int .i64 1))⟩, ⟨(some 27), none, .pick (t 23) (t 26) (k (.bool false))⟩, ⟨(some 28), none, .mv (t 7)⟩, ⟨(some 4), none, .mv (t 27)⟩, ⟨(some 5), none, .mv (t 28)⟩])
  .ret))))
theorem fn39 : Fn Go.Proofs.Try.prog 39 29 [.inl 4, .inl 5] c39 :=
  ⟨⟨_, _, Go.Proofs.Try.func39, rfl, by kernel_rfl, Go.Proofs.Try.ntmps39, by kernel_rfl, ⟨fun f => imp.contains f, false⟩, by kernel_rfl⟩⟩

def c48 : C :=
  (.seq (.reg [⟨(some 4), none, .mv (k (.int .i64 0))⟩])
  (.seq (.block 0
  (.seq (.reg [⟨(some 6), none, .mv (t 0)⟩, ⟨(some 7), none, .bin .eql (t 6) (k (.str [110, 111, 116]))⟩, ⟨(some 8), none, .mv (t 7)⟩, ⟨(some 9), (some (8, true)), .mv (t 1)⟩, ⟨(some 10), (some (8, true)), .bin .eql (t 9) (k (.int .i64 1))⟩, ⟨(some 11), none, .pick (t 8) (t 10) (k (.bool false))⟩, ⟨(some 5), none, .mv (t 11)⟩])
  (.cond (t 5)
  (.seq (.reg [⟨(some 4), none, .mv (k (.int .i64 1))⟩])
  .ret)
  (.seq (.seq (.reg [⟨(some 13), none, .mv (t 0)⟩, ⟨(some 14), none, .bin .eql (t 13) (k (.str [110, 101, 103]))⟩, ⟨(some 15), none, .mv (t 14)⟩, ⟨(some 16), (some (15, true)), .mv (t 1)⟩, ⟨(some 17), (some (15, true)), .bin .eql (t 16) (k (.int .i64 2))⟩, ⟨(some 18), none, .pick (t 15) (t 17) (k (.bool false))⟩, ⟨(some 12), none, .mv (t 18)⟩])
  (.cond (t 12)
  .skip
  (.reg [⟨(some 19), none, .mv (t 0)⟩, ⟨(some 20), none, .bin .eql (t 19) (k (.str [115, 105, 122, 101]))⟩, ⟨(some 21), none, .mv (t 20)⟩, ⟨(some 22), (some (21, true)), .mv (t 1)⟩, ⟨(some 23), (some (21, true)), .bin .gtr (t 22) (k (.int .i64 10))⟩, ⟨(some 24), none, .pick (t 21) (t 23) (k (.bool false))⟩, ⟨(some 12), none, .mv (t 24)⟩])))
  (.cond (t 12)
  (.seq (.reg [⟨(some 4), none, .mv (k (.int .i64 2))⟩])
  .ret)
  .skip)))))
  (.seq (.reg [⟨(some 4), none, .mv (k (.int .i64 0))⟩])
  .ret)))
theorem fn48 : Fn Go.Proofs.Try.prog 48 25 [.inl 4] c48 :=
  ⟨⟨_, _, Go.Proofs.Try.func48, rfl, by kernel_rfl, Go.Proofs.Try.ntmps48, by kernel_rfl, ⟨fun f => imp.contains f, false⟩, by kernel_rfl⟩⟩

def c49 : C :=
  (.seq (.reg [⟨(some 6), none, .mv (k (.int .i64 0))⟩])
  (.seq (.reg [⟨(some 7), none, .mv (k (.bool false))⟩])
  (.seq (.seq (.reg [⟨(some 8), none, .mv (t 0)⟩])
  (.block 0
  (.seq (.seq (.reg [⟨(some 21), none, .bin .eql (t 8) (k (.str [43]))⟩, ⟨(some 20), none, .mv (t 21)⟩])
  (.cond (t 20)
  .skip
  (.seq (.reg [⟨(some 22), none, .bin .eql (t 8) (k (.str [45]))⟩, ⟨(some 20), none, .mv (t 22)⟩])
  (.cond (t 20)
  .skip
  (.reg [⟨(some 23), none, .bin .eql (t 8) (k (.str [42]))⟩, ⟨(some 20), none, .mv (t 23)⟩])))))
  (.cond (t 20)
  (.seq (.reg [⟨(some 24), none, .mv (t 0)⟩, ⟨(some 25), none, .mv (t 1)⟩, ⟨(some 26), none, .mv (t 2)⟩, ⟨(some 27), none, .pcall (k (.fn 69 [] [])) [(t 24), (t 25), (t 26)]⟩, ⟨(some 6), none, .mv (t 27)⟩])
  .ret)
  (.seq (.seq (.reg [⟨(some 29), none, .bin .eql (t 8) (k (.str [97, 110, 100]))⟩, ⟨(some 28), none, .mv (t 29)⟩])
  (.cond (t 28)
  .skip
  (.reg [⟨(some 30), none, .bin .eql (t 8) (k (.str [111, 114]))⟩, ⟨(some 28), none, .mv (t 30)⟩])))
  (.cond (t 28)
  (.reg [⟨(some 31), none, .mv (t 1)⟩, ⟨(some 32), none, .bin .eql (t 31) (k (.int .i64 1))⟩, ⟨(some 33), none, .mv (t 32)⟩, ⟨(some 34), (some (33, true)), .mv (t 2)⟩, ⟨(some 35), (some (33, true)), .bin .eql (t 34) (k (.int .i64 1))⟩, ⟨(some 36), none, .pick (t 33) (t 35) (k (.bool false))⟩, ⟨(some 7), none, .mv (t 36)⟩])
  (.seq (.seq (.reg [⟨(some 38), none, .bin .eql (t 8) (k (.str [61, 61]))⟩, ⟨(some 37), none, .mv (t 38)⟩])
  (.cond (t 37)
  .skip
  (.reg [⟨(some 39), none, .bin .eql (t 8) (k (.str [33, 61]))⟩, ⟨(some 37), none, .mv (t 39)⟩])))
  (.cond (t 37)
  (.reg [⟨(some 40), none, .mv (t 1)⟩, ⟨(some 41), none, .mv (t 2)⟩, ⟨(some 42), none, .bin .eql (t 40) (t 41)⟩, ⟨(some 7), none, .mv (t 42)⟩])
  (.seq (.reg [⟨(some 44), none, .bin .eql (t 8) (k (.str [105, 110]))⟩, ⟨(some 43), none, .mv (t 44)⟩])
  (.cond (t 43)
  (.reg [⟨(some 45), none, .mv (t 2)⟩, ⟨(some 46), none, .mv (t 1)⟩, ⟨(some 47), none, .bin .add (k (.int .i64 10)) (t 46)⟩, ⟨(some 48), none, .bin .eql (t 45) (t 47)⟩, ⟨(some 7), none, .mv (t 48)⟩])
  (.reg [⟨(some 9), none, .mv (t 1)⟩, ⟨(some 10), none, .mv (t 2)⟩, ⟨(some 11), none, .bin .eql (t 9) (t 10)⟩, ⟨(some 12), none, .mv (t 11)⟩, ⟨(some 13), (some (12, true)), .mv (t 1)⟩, ⟨(some 14), (some (12, true)), .bin .neq (t 13) (k (.int .i64 1))⟩, ⟨(some 15), none, .pick (t 12) (t 14) (k (.bool false))⟩, ⟨(some 16), none, .mv (t 15)⟩, ⟨(some 17), (some (16, true)), .mv (t 1)⟩, ⟨(some 18), (some (16, true)), .bin .lss (t 17) (k (.int .i64 10))⟩, ⟨(some 19), none, .pick (t 16) (t 18) (k (.bool false))⟩, ⟨(some 7), none, .mv (t 19)⟩])))))))))))
  (.seq (.seq (.reg [⟨(some 49), none, .mv (t 7)⟩])
  (.cond (t 49)
  (.seq (.reg [⟨(some 6), none, .mv (k (.int .i64 1))⟩])
  .ret)
  .skip))
  (.seq (.reg [⟨(some 6), none, .mv (k (.int .i64 0))⟩])
  .ret)))))
theorem fn49 : Fn Go.Proofs.Try.prog 49 50 [.inl 6] c49 :=
  ⟨⟨_, _, Go.Proofs.Try.func49, rfl, by kernel_rfl, Go.Proofs.Try.ntmps49, by kernel_rfl, ⟨fun f => imp.contains f, false⟩, by kernel_rfl⟩⟩

def c51 : C :=
  (.seq (.reg [⟨(some 1), none, .box (t 0)⟩, ⟨(some 2), none, .mv (k (.bool false))⟩])
  (.seq (.reg [⟨(some 6), none, .faddr 0 (t 1)⟩, ⟨(some 7), none, .load false 1 (t 6)⟩, ⟨(some 8), none, .faddr 1 (t 1)⟩, ⟨(some 9), none, .load true 4 (t 8)⟩, ⟨(some 10), none, .faddr 7 (t 1)⟩, ⟨(some 11), none, .load false 1 (t 10)⟩, ⟨(some 12), none, .build [(.str []), (.int .i64 0), (.int .i64 0), (.str []), .nils, (.str []), (.str []), .nils] [(0, 1, (t 7)), (1, 4, (t 9)), (7, 1, (t 11))]⟩, ⟨(some 13), none, .pcall (k (.fn 30 [] [])) [(k .nils), (t 12)]⟩, ⟨(some 5), none, .mv (t 13)⟩, ⟨(some 14), none, .ext 0 (t 5)⟩, ⟨(some 15), none, .ext 1 (t 5)⟩, ⟨(some 3), none, .mv (t 14)⟩, ⟨(some 4), none, .mv (t 15)⟩])
  (.seq (.seq (.reg [⟨(some 16), none, .mv (t 4)⟩, ⟨(some 17), none, .bin .eql (t 16) (k (.int .i64 2))⟩])
  (.cond (t 17)
  (.seq (.reg [⟨(some 2), none, .mv (k (.bool false))⟩])
  .ret)
  .skip))
  (.seq (.reg [⟨(some 18), none, .faddr 7 (t 1)⟩, ⟨(some 19), none, .load false 1 (t 18)⟩, ⟨(some 20), none, .pcall (k (.fn 70 [] [])) [(t 19), (k (.fn 71 [] []))]⟩, ⟨(some 21), none, .un .not (t 20)⟩, ⟨(some 2), none, .mv (t 21)⟩])
  .ret))))
theorem fn51 : Fn Go.Proofs.Try.prog 51 22 [.inl 2] c51 :=
  ⟨⟨_, _, Go.Proofs.Try.func51, rfl, by kernel_rfl, Go.Proofs.Try.ntmps51, by kernel_rfl, ⟨fun f => imp.contains f, false⟩, by kernel_rfl⟩⟩

def c52 : C :=
  (.seq (.reg [⟨(some 2), none, .box (t 0)⟩, ⟨(some 3), none, .box (t 1)⟩, ⟨(some 4), none, .alloc [(.int .i64 0), (.int .i64 0), (.str []), .nils]⟩, ⟨(some 5), none, .mv (k (.int .i64 0))⟩])
  (.seq (.seq (.reg [⟨(some 8), none, .faddr 0 (t 3)⟩, ⟨(some 9), none, .load false 1 (t 8)⟩])
  (.block 0
  (.seq (.reg [⟨(some 11), none, .bin .eql (t 9) (k (.str [118, 97, 108, 117, 101]))⟩, ⟨(some 10), none, .mv (t 11)⟩])
  (.cond (t 10)
  (.seq (.reg [⟨(some 12), none, .faddr 1 (t 3)⟩, ⟨(some 13), none, .load true 4 (t 12)⟩, ⟨none, none, .store 4 (t 4) (t 13)⟩, ⟨(some 5), none, .mv (k (.int .i64 0))⟩])
  .ret)
  (.seq (.reg [⟨(some 15), none, .bin .eql (t 9) (k (.str [110, 111, 119]))⟩, ⟨(some 14), none, .mv (t 15)⟩])
  (.cond (t 14)
  (.seq (.reg [⟨(some 16), none, .faddr 0 (t 2)⟩, ⟨(some 17), none, .load false 1 (t 16)⟩, ⟨(some 18), none, .build [(.int .i64 0), (.int .i64 0), (.str []), .nils] [(0, 1, (k (.int .i64 4))), (1, 1, (t 17))]⟩, ⟨none, none, .store 4 (t 4) (t 18)⟩, ⟨(some 5), none, .mv (k (.int .i64 0))⟩])
  .ret)
  (.seq (.reg [⟨(some 20), none, .bin .eql (t 9) (k (.str [114, 111, 108, 101]))⟩, ⟨(some 19), none, .mv (t 20)⟩])
  (.cond (t 19)
  (.seq (.reg [⟨(some 21), none, .faddr 1 (t 2)⟩, ⟨(some 22), none, .load false 1 (t 21)⟩, ⟨(some 23), none, .faddr 6 (t 3)⟩, ⟨(some 24), none, .load false 1 (t 23)⟩, ⟨(some 25), none, .pcall (k (.fn 73 [] [])) [(t 22), (t 24)]⟩, ⟨(some 26), none, .pcall (k (.fn 72 [] [])) [(t 25)]⟩, ⟨none, none, .store 4 (t 4) (t 26)⟩, ⟨(some 5), none, .mv (k (.int .i64 0))⟩])
  .ret)
  .skip))))))))
  (.seq (.reg [⟨(some 28), none, .load true 3 (t 2)⟩, ⟨(some 29), none, .faddr 5 (t 3)⟩, ⟨(some 30), none, .load false 1 (t 29)⟩, ⟨(some 31), none, .faddr 6 (t 3)⟩, ⟨(some 32), none, .load false 1 (t 31)⟩, ⟨(some 33), none, .pcall (k (.fn 74 [] [])) [(t 28), (t 30), (t 32)]⟩, ⟨(some 27), none, .mv (t 33)⟩, ⟨(some 34), none, .ext 0 (t 27)⟩, ⟨(some 35), none, .ext 1 (t 27)⟩, ⟨(some 6), none, .alloc [(.int .i64 0), (.int .i64 0), (.str []), .nils]⟩, ⟨none, none, .store 4 (t 6) (t 34)⟩, ⟨(some 7), none, .mv (t 35)⟩])
  (.seq (.block 1
  (.seq (.reg [⟨(some 37), none, .faddr 0 (t 3)⟩, ⟨(some 38), none, .load false 1 (t 37)⟩, ⟨(some 39), none, .bin .eql (t 38) (k (.str [104, 97, 115]))⟩, ⟨(some 36), none, .mv (t 39)⟩])
  (.cond (t 36)
  (.seq (.reg [⟨(some 40), none, .mv (t 7)⟩, ⟨(some 41), none, .pcall (k (.fn 72 [] [])) [(t 40)]⟩, ⟨none, none, .store 4 (t 4) (t 41)⟩, ⟨(some 5), none, .mv (k (.int .i64 0))⟩])
  .ret)
  (.seq (.reg [⟨(some 43), none, .mv (t 7)⟩, ⟨(some 44), none, .un .not (t 43)⟩, ⟨(some 42), none, .mv (t 44)⟩])
  (.cond (t 42)
  (.seq (.reg [⟨(some 45), none, .build [(.int .i64 0), (.int .i64 0), (.str []), .nils] []⟩, ⟨none, none, .store 4 (t 4) (t 45)⟩, ⟨(some 5), none, .mv (k (.int .i64 8))⟩])
  .ret)
  .skip)))))
  (.seq (.reg [⟨(some 46), none, .load true 4 (t 6)⟩, ⟨none, none, .store 4 (t 4) (t 46)⟩, ⟨(some 5), none, .mv (k (.int .i64 0))⟩])
  .ret)))))
theorem fn52 : Fn Go.Proofs.Try.prog 52 47 [.inr (4, true, 4), .inl 5] c52 :=
  ⟨⟨_, _, Go.Proofs.Try.func52, rfl, by kernel_rfl, Go.Proofs.Try.ntmps52, by kernel_rfl, ⟨fun f => imp.contains f, false⟩, by kernel_rfl⟩⟩

def c56 : C :=
  (.seq (.reg [⟨(some 4), none, .mv (k (.int .i64 0))⟩])
  (.seq (.seq (.reg [⟨(some 5), none, .mv (t 0)⟩, ⟨(some 6), none, .mv (t 1)⟩, ⟨(some 7), none, .bin .lss (t 5) (t 6)⟩])
  (.cond (t 7)
  (.seq (.reg [⟨(some 4), none, .mv (k (.int .i64 (-1)))⟩])
  .ret)
  .skip))
  (.seq (.seq (.reg [⟨(some 8), none, .mv (t 0)⟩, ⟨(some 9), none, .mv (t 1)⟩, ⟨(some 10), none, .bin .gtr (t 8) (t 9)⟩])
  (.cond (t 10)
  (.seq (.reg [⟨(some 4), none, .mv (k (.int .i64 1))⟩])
  .ret)
  .skip))
  (.seq (.reg [⟨(some 4), none, .mv (k (.int .i64 0))⟩])
  .ret))))
theorem fn56 : Fn Go.Proofs.Try.prog 56 11 [.inl 4] c56 :=
  ⟨⟨_, _, Go.Proofs.Try.func56, rfl, by kernel_rfl, Go.Proofs.Try.ntmps56, by kernel_rfl, ⟨fun f => imp.contains f, false⟩, by kernel_rfl⟩⟩

def c63 : C :=
  (.seq (.reg [⟨(some 1), none, .box (t 0)⟩, ⟨(some 2), none, .mv (k (.int .i64 0))⟩, ⟨(some 3), none, .mv (k (.bool false))⟩])
  (.seq (.reg [⟨(some 5), none, .faddr 1 (t 1)⟩, ⟨(some 6), none, .load false 1 (t 5)⟩, ⟨(some 7), none, .conv .i64 (t 6)⟩, ⟨(some 4), none, .mv (t 7)⟩])
  (.seq (.draw 0 [(⟨(some 8), none, .mv (t 4)⟩, []), (⟨(some 9), none, .mv (t 4)⟩, []), (⟨(some 10), none, .pcall (k (.fn 60 [] [])) [(t 9)]⟩, []), (⟨(some 11), none, .load true 2 (t 1)⟩, []), (⟨(some 12), none, .eqa [.int, .int] false (t 10) (t 11)⟩, []), (⟨(some 2), none, .mv (t 8)⟩, []), (⟨(some 3), none, .mv (t 12)⟩, [])])
  .ret)))
theorem fn63 : Fn Go.Proofs.Try.prog 63 13 [.inl 2, .inl 3] c63 :=
  ⟨⟨_, _, Go.Proofs.Try.func63, rfl, by kernel_rfl, Go.Proofs.Try.ntmps63, by kernel_rfl, ⟨fun f => imp.contains f, false⟩, by kernel_rfl⟩⟩

def c69 : C :=
  (.seq (.reg [⟨(some 6), none, .mv (k (.int .i64 0))⟩])
  (.seq (.reg [⟨(some 8), none, .mv (t 1)⟩, ⟨(some 9), none, .bin .eql (t 8) (k (.int .i64 2))⟩, ⟨(some 10), none, .mv (t 9)⟩, ⟨(some 11), (some (10, true)), .mv (t 2)⟩, ⟨(some 12), (some (10, true)), .bin .eql (t 11) (k (.int .i64 2))⟩, ⟨(some 13), none, .pick (t 10) (t 12) (k (.bool false))⟩, ⟨(some 7), none, .mv (t 13)⟩])
  (.seq (.block 0
  (.seq (.reg [⟨(some 15), none, .mv (t 7)⟩, ⟨(some 14), none, .mv (t 15)⟩])
  (.cond (t 14)
  (.seq (.reg [⟨(some 6), none, .mv (k (.int .i64 2))⟩])
  .ret)
  (.seq (.reg [⟨(some 17), none, .mv (t 0)⟩, ⟨(some 18), none, .bin .neq (t 17) (k (.str [42]))⟩, ⟨(some 19), none, .mv (t 18)⟩, ⟨(some 20), (some (19, true)), .mv (t 1)⟩, ⟨(some 21), (some (19, true)), .bin .eql (t 20) (k (.int .i64 4))⟩, ⟨(some 22), none, .pick (t 19) (t 21) (k (.bool false))⟩, ⟨(some 23), none, .mv (t 22)⟩, ⟨(some 24), (some (23, true)), .mv (t 2)⟩, ⟨(some 25), (some (23, true)), .bin .eql (t 24) (k (.int .i64 2))⟩, ⟨(some 26), none, .pick (t 23) (t 25) (k (.bool false))⟩, ⟨(some 16), none, .mv (t 26)⟩])
  (.cond (t 16)
  (.seq (.reg [⟨(some 6), none, .mv (k (.int .i64 4))⟩])
  .ret)
  (.seq (.reg [⟨(some 28), none, .mv (t 0)⟩, ⟨(some 29), none, .bin .eql (t 28) (k (.str [45]))⟩, ⟨(some 30), none, .mv (t 29)⟩, ⟨(some 31), (some (30, true)), .mv (t 1)⟩, ⟨(some 32), (some (30, true)), .bin .eql (t 31) (k (.int .i64 4))⟩, ⟨(some 33), none, .pick (t 30) (t 32) (k (.bool false))⟩, ⟨(some 34), none, .mv (t 33)⟩, ⟨(some 35), (some (34, true)), .mv (t 2)⟩, ⟨(some 36), (some (34, true)), .bin .eql (t 35) (k (.int .i64 4))⟩, ⟨(some 37), none, .pick (t 34) (t 36) (k (.bool false))⟩, ⟨(some 27), none, .mv (t 37)⟩])
  (.cond (t 27)
  (.seq (.reg [⟨(some 6), none, .mv (k (.int .i64 2))⟩])
  .ret)
  .skip)))))))
  (.seq (.reg [⟨(some 6), none, .mv (k (.int .i64 0))⟩])
  .ret))))
theorem fn69 : Fn Go.Proofs.Try.prog 69 38 [.inl 6] c69 :=
  ⟨⟨_, _, Go.Proofs.Try.func69, rfl, by kernel_rfl, Go.Proofs.Try.ntmps69, by kernel_rfl, ⟨fun f => imp.contains f, false⟩, by kernel_rfl⟩⟩

def c70 : C :=
  (.seq (.reg [⟨(some 4), none, .mv (k (.bool false))⟩])
  (.seq (.reg [⟨(some 5), none, .mv (t 0)⟩, ⟨(some 6), none, .mv (t 1)⟩, ⟨(some 7), none, .pcall (k (.fn 87 [] [])) [(t 5), (t 6)]⟩, ⟨(some 8), none, .bin .geq (t 7) (k (.int .i64 0))⟩, ⟨(some 4), none, .mv (t 8)⟩])
  .ret))
theorem fn70 : Fn Go.Proofs.Try.prog 70 9 [.inl 4] c70 :=
  ⟨⟨_, _, Go.Proofs.Try.func70, rfl, by kernel_rfl, Go.Proofs.Try.ntmps70, by kernel_rfl, ⟨fun f => imp.contains f, false⟩, by kernel_rfl⟩⟩

def c79 : C :=
  (.seq (.reg [⟨(some 4), none, .alloc [(.int .i64 0), (.int .i64 0), (.str []), .nils]⟩, ⟨(some 5), none, .mv (k (.int .i64 0))⟩])
  (.seq (.seq (.reg [⟨(some 6), none, .mv (t 1)⟩, ⟨(some 7), none, .bin .neq (t 6) (k (.int .i64 0))⟩])
  (.cond (t 7)
  (.seq (.reg [⟨(some 8), none, .build [(.int .i64 0), (.int .i64 0), (.str []), .nils] []⟩, ⟨(some 9), none, .mv (t 1)⟩, ⟨none, none, .store 4 (t 4) (t 8)⟩, ⟨(some 5), none, .mv (t 9)⟩])
  .ret)
  .skip))
  (.seq (.reg [⟨(some 10), none, .mv (t 0)⟩, ⟨(some 11), none, .pcall (k (.fn 72 [] [])) [(t 10)]⟩, ⟨none, none, .store 4 (t 4) (t 11)⟩, ⟨(some 5), none, .mv (k (.int .i64 0))⟩])
  .ret)))
theorem fn79 : Fn Go.Proofs.Try.prog 79 12 [.inr (4, true, 4), .inl 5] c79 :=
  ⟨⟨_, _, Go.Proofs.Try.func79, rfl, by kernel_rfl, Go.Proofs.Try.ntmps79, by kernel_rfl, ⟨fun f => imp.contains f, false⟩, by kernel_rfl⟩⟩

def c88 : C :=
  (.seq (.reg [⟨(some 4), none, .mv (k (.int .i64 0))⟩])
  (.seq (.seq (.reg [⟨(some 6), none, .mv (t 0)⟩, ⟨(some 7), none, .len (t 6)⟩, ⟨(some 8), none, .mv (k (.int .i64 0))⟩])
  (.block 0
  (.loop
  (.seq (.reg [⟨(some 9), none, .bin .lss (t 8) (t 7)⟩])
  (.seq (.cond (t 9)
  .skip
  (.exit 0))
  (.seq (.block 1
  (.seq (.reg [⟨(some 10), none, .mv (t 8)⟩, ⟨(some 5), none, .mv (t 10)⟩])
  (.seq (.reg [⟨(some 11), none, .mv (t 1)⟩, ⟨(some 12), none, .mv (t 0)⟩, ⟨(some 13), none, .mv (t 5)⟩, ⟨(some 14), none, .iaddr 1 (t 12) (t 13)⟩, ⟨(some 15), none, .load false 1 (t 14)⟩, ⟨(some 16), none, .bin .eql (t 11) (t 15)⟩])
  (.cond (t 16)
  (.seq (.reg [⟨(some 17), none, .mv (t 5)⟩, ⟨(some 4), none, .mv (t 17)⟩])
  .ret)
  .skip))))
  (.reg [⟨(some 18), none, .bin .add (t 8) (k (.int .i64 1))⟩, ⟨(some 8), none, .mv (t 18)⟩])))))))
  (.seq (.reg [⟨(some 4), none, .mv (k (.int .i64 (-1)))⟩])
  .ret)))
theorem fn88 : Fn Go.Proofs.Try.prog 88 19 [.inl 4] c88 :=
  ⟨⟨_, _, Go.Proofs.Try.func88, rfl, by kernel_rfl, Go.Proofs.Try.ntmps88, by kernel_rfl, ⟨fun f => imp.contains f, false⟩, by kernel_rfl⟩⟩

def c98 : C :=
  (.seq (.reg [⟨(some 2), none, .box (t 0)⟩, ⟨(some 3), none, .mv (k (.bool false))⟩])
  (.seq (.reg [⟨(some 4), none, .load true 4 (t 2)⟩, ⟨(some 5), none, .load true 4 (t 1)⟩, ⟨(some 6), none, .pcall (k (.fn 59 [] [])) [(t 4), (t 5)]⟩, ⟨(some 7), none, .bin .eql (t 6) (k (.int .i64 0))⟩, ⟨(some 3), none, .mv (t 7)⟩])
  .ret))
theorem fn98 : Fn Go.Proofs.Try.prog 98 8 [.inl 3] c98 :=
  ⟨⟨_, _, Go.Proofs.Try.func98, rfl, by kernel_rfl, Go.Proofs.Try.ntmps98, by kernel_rfl, ⟨fun f => imp.contains f, false⟩, by kernel_rfl⟩⟩

def c102 : C :=
  (.seq (.reg [⟨(some 4), none, .mv (k (.int .u64 0))⟩, ⟨(some 5), none, .mv (k (.int .u64 0))⟩])
  (.seq (.reg [⟨(some 14), none, .mv (t 0)⟩, ⟨(some 15), none, .bin .and (t 14) (k (.int .u64 4294967295))⟩, ⟨(some 6), none, .mv (t 15)⟩])
  (.seq (.reg [⟨(some 16), none, .mv (t 0)⟩, ⟨(some 17), none, .bin .shr (t 16) (k (.int .u64 32))⟩, ⟨(some 7), none, .mv (t 17)⟩])
  (.seq (.reg [⟨(some 18), none, .mv (t 1)⟩, ⟨(some 19), none, .bin .and (t 18) (k (.int .u64 4294967295))⟩, ⟨(some 8), none, .mv (t 19)⟩])
  (.seq (.reg [⟨(some 20), none, .mv (t 1)⟩, ⟨(some 21), none, .bin .shr (t 20) (k (.int .u64 32))⟩, ⟨(some 9), none, .mv (t 21)⟩])
  (.seq (.reg [⟨(some 22), none, .mv (t 6)⟩, ⟨(some 23), none, .mv (t 8)⟩, ⟨(some 24), none, .bin .mul (t 22) (t 23)⟩, ⟨(some 10), none, .mv (t 24)⟩])
  (.seq (.reg [⟨(some 25), none, .mv (t 7)⟩, ⟨(some 26), none, .mv (t 8)⟩, ⟨(some 27), none, .bin .mul (t 25) (t 26)⟩, ⟨(some 28), none, .mv (t 10)⟩, ⟨(some 29), none, .bin .shr (t 28) (k (.int .u64 32))⟩, ⟨(some 30), none, .bin .add (t 27) (t 29)⟩, ⟨(some 11), none, .mv (t 30)⟩])
  (.seq (.reg [⟨(some 31), none, .mv (t 11)⟩, ⟨(some 32), none, .bin .and (t 31) (k (.int .u64 4294967295))⟩, ⟨(some 12), none, .mv (t 32)⟩])
  (.seq (.reg [⟨(some 33), none, .mv (t 11)⟩, ⟨(some 34), none, .bin .shr (t 33) (k (.int .u64 32))⟩, ⟨(some 13), none, .mv (t 34)⟩])
  (.seq (.reg [⟨(some 35), none, .mv (t 12)⟩, ⟨(some 36), none, .mv (t 6)⟩, ⟨(some 37), none, .mv (t 9)⟩, ⟨(some 38), none, .bin .mul (t 36) (t 37)⟩, ⟨(some 39), none, .bin .add (t 35) (t 38)⟩, ⟨(some 12), none, .mv (t 39)⟩])
  (.seq (.reg [⟨(some 40), none, .mv (t 7)⟩, ⟨(some 41), none, .mv (t 9)⟩, ⟨(some 42), none, .bin .mul (t 40) (t 41)⟩, ⟨(some 43), none, .mv (t 13)⟩, ⟨(some 44), none, .bin .add (t 42) (t 43)⟩, ⟨(some 45), none, .mv (t 12)⟩, ⟨(some 46), none, .bin .shr (t 45) (k (.int .u64 32))⟩, ⟨(some 47), none, .bin .add (t 44) (t 46)⟩, ⟨(some 4), none, .mv (t 47)⟩])
  (.seq (.reg [⟨(some 48), none, .mv (t 0)⟩, ⟨(some 49), none, .mv (t 1)⟩, ⟨(some 50), none, .bin .mul (t 48) (t 49)⟩, ⟨(some 5), none, .mv (t 50)⟩])
  .ret))))))))))))
theorem fn102 : Fn Go.Proofs.Try.prog 102 51 [.inl 4, .inl 5] c102 :=
  ⟨⟨_, _, Go.Proofs.Try.func102, rfl, by kernel_rfl, Go.Proofs.Try.ntmps102, by kernel_rfl, ⟨fun f => imp.contains f, false⟩, by kernel_rfl⟩⟩

end GP
namespace GP
open Go Go.Proofs
open Rd O
set_option maxRecDepth 100000
def c3 : C :=
  (.seq (.reg [⟨(some 2), none, .mv (k (.bool false))⟩])
  (.seq (.reg [⟨(some 5), none, .pcall (k (.fn 8 [] [])) []⟩, ⟨(some 6), none, .pcall (k (.fn 9 [] [])) []⟩, ⟨(some 3), none, .mv (t 5)⟩, ⟨(some 4), none, .mv (t 6)⟩])
  (.seq (.draw 0 [(⟨(some 7), none, .pcall (k (.fn 10 [] [])) []⟩, []), (⟨(some 8), none, .mv (t 7)⟩, []), (⟨(some 9), (some (8, true)), .mv (t 3)⟩, []), (⟨(some 10), (some (8, true)), .len (t 9)⟩, []), (⟨(some 11), (some (8, true)), .bin .eql (t 10) (k (.int .i64 6))⟩, []), (⟨(some 12), none, .pick (t 8) (t 11) (k (.bool false))⟩, []), (⟨(some 13), none, .mv (t 12)⟩, []), (⟨(some 14), (some (13, true)), .mv (t 3)⟩, []), (⟨(some 15), (some (13, true)), .mv (t 0)⟩, []), (⟨(some 16), (some (13, true)), .bin .rem (t 15) (k (.int .u8 6))⟩, []), (⟨(some 17), (some (13, true)), .iaddr 1 (t 14) (t 16)⟩, []), (⟨(some 18), (some (13, true)), .load false 1 (t 17)⟩, []), (⟨(some 19), (some (13, true)), .mv (t 4)⟩, []), (⟨(some 20), (some (13, true)), .mv (t 0)⟩, []), (⟨(some 21), (some (13, true)), .bin .rem (t 20) (k (.int .u8 6))⟩, []), (⟨(some 22), (some (13, true)), .iaddr 1 (t 19) (t 21)⟩, []), (⟨(some 23), (some (13, true)), .load false 1 (t 22)⟩, []), (⟨(some 24), (some (13, true)), .bin .eql (t 18) (t 23)⟩, []), (⟨(some 25), none, .pick (t 13) (t 24) (k (.bool false))⟩, []), (⟨(some 2), none, .mv (t 25)⟩, [])])
  .ret)))
theorem fn3 : Fn Go.Proofs.Try.prog 3 26 [.inl 2] c3 :=
  ⟨⟨_, _, Go.Proofs.Try.func3, rfl, by kernel_rfl, Go.Proofs.Try.ntmps3, by kernel_rfl, ⟨fun f => imp.contains f, false⟩, by kernel_rfl⟩⟩

def c7 : C :=
  (.seq (.reg [⟨(some 3), none, .box (t 0)⟩, ⟨(some 4), none, .box (t 1)⟩, ⟨(some 5), none, .box (t 2)⟩, ⟨(some 6), none, .mv (k (.bool false))⟩])
  (.seq (.seq (.reg [⟨(some 17), none, .pcall (k (.fn 11 [] [])) []⟩, ⟨(some 18), none, .un .not (t 17)⟩, ⟨(some 19), none, .mv (t 18)⟩, ⟨(some 20), (some (19, false)), .load true 8 (t 3)⟩, ⟨(some 21), (some (19, false)), .pcall (k (.fn 27 [] [])) [(t 20), (k (.int .i64 40))]⟩, ⟨(some 22), (some (19, false)), .bin .gtr (t 21) (k (.int .i64 40))⟩, ⟨(some 23), none, .pick (t 19) (k (.bool true)) (t 22)⟩, ⟨(some 24), none, .mv (t 23)⟩, ⟨(some 25), (some (24, false)), .load true 8 (t 4)⟩, ⟨(some 26), (some (24, false)), .pcall (k (.fn 27 [] [])) [(t 25), (k (.int .i64 40))]⟩, ⟨(some 27), (some (24, false)), .bin .gtr (t 26) (k (.int .i64 40))⟩, ⟨(some 28), none, .pick (t 24) (k (.bool true)) (t 27)⟩, ⟨(some 29), none, .mv (t 28)⟩, ⟨(some 30), (some (29, false)), .load true 8 (t 3)⟩, ⟨(some 31), (some (29, false)), .pcall (k (.fn 12 [] [])) [(t 30)]⟩, ⟨(some 32), (some (29, false)), .un .not (t 31)⟩, ⟨(some 33), none, .pick (t 29) (k (.bool true)) (t 32)⟩, ⟨(some 34), none, .mv (t 33)⟩, ⟨(some 35), (some (34, false)), .load true 8 (t 4)⟩, ⟨(some 36), (some (34, false)), .pcall (k (.fn 12 [] [])) [(t 35)]⟩, ⟨(some 37), (some (34, false)), .un .not (t 36)⟩, ⟨(some 38), none, .pick (t 34) (k (.bool true)) (t 37)⟩, ⟨(some 39), none, .mv (t 38)⟩, ⟨(some 40), (some (39, false)), .load true 3 (t 5)⟩, ⟨(some 41), (some (39, false)), .pcall (k (.fn 13 [] [])) [(t 40)]⟩, ⟨(some 42), (some (39, false)), .un .not (t 41)⟩, ⟨(some 43), none, .pick (t 39) (k (.bool true)) (t 42)⟩])
  (.cond (t 43)
  (.seq (.reg [⟨(some 44), none, .pcall (k (.fn 11 [] [])) []⟩, ⟨(some 6), none, .mv (t 44)⟩])
  .ret)
  .skip))
  (.seq (.reg [⟨(some 45), none, .load true 8 (t 3)⟩, ⟨(some 46), none, .load true 8 (t 4)⟩, ⟨(some 47), none, .pcall (k (.fn 29 [] [])) [(k (.str [97, 110, 100])), (t 45), (t 46)]⟩, ⟨(some 48), none, .pcall (k (.fn 28 [] [])) [(k (.str [110, 111, 116])), (t 47)]⟩, ⟨(some 7), none, .alloc [(.str []), (.int .i64 0), (.int .i64 0), (.str []), .nils, (.str []), (.str []), .nils]⟩, ⟨none, none, .store 8 (t 7) (t 48)⟩])
  (.seq (.draw 1 [(⟨(some 49), none, .load true 8 (t 3)⟩, []), (⟨(some 50), none, .pcall (k (.fn 28 [] [])) [(k (.str [110, 111, 116])), (t 49)]⟩, []), (⟨(some 51), none, .load true 8 (t 4)⟩, []), (⟨(some 52), none, .pcall (k (.fn 28 [] [])) [(k (.str [110, 111, 116])), (t 51)]⟩, []), (⟨(some 53), none, .pcall (k (.fn 29 [] [])) [(k (.str [111, 114])), (t 50), (t 52)]⟩, []), (⟨(some 8), none, .rawAt 1 [(.str []), (.int .i64 0), (.int .i64 0), (.str []), .nils, (.str []), (.str []), .nils]⟩, []), (⟨none, none, .fillAt 1 8 (t 8) (t 53)⟩, [])])
  (.seq (.reg [⟨(some 55), none, .load true 8 (t 7)⟩, ⟨(some 56), none, .load true 3 (t 5)⟩, ⟨(some 57), none, .pcall (k (.fn 22 [] [])) [(t 55), (t 56)]⟩, ⟨(some 54), none, .mv (t 57)⟩, ⟨(some 58), none, .ext 0 (t 54)⟩, ⟨(some 59), none, .ext 1 (t 54)⟩, ⟨(some 9), none, .mv (t 58)⟩, ⟨(some 10), none, .mv (t 59)⟩])
  (.seq (.reg [⟨(some 61), none, .load true 8 (t 8)⟩, ⟨(some 62), none, .load true 3 (t 5)⟩, ⟨(some 63), none, .pcall (k (.fn 22 [] [])) [(t 61), (t 62)]⟩, ⟨(some 60), none, .mv (t 63)⟩, ⟨(some 64), none, .ext 0 (t 60)⟩, ⟨(some 65), none, .ext 1 (t 60)⟩, ⟨(some 11), none, .mv (t 64)⟩, ⟨(some 12), none, .mv (t 65)⟩])
  (.seq (.draw 0 [(⟨(some 67), none, .load true 8 (t 3)⟩, []), (⟨(some 68), none, .load true 8 (t 4)⟩, []), (⟨(some 69), none, .pcall (k (.fn 29 [] [])) [(k (.str [97, 110, 100])), (t 67), (t 68)]⟩, []), (⟨(some 70), none, .load true 3 (t 5)⟩, []), (⟨(some 71), none, .pcall (k (.fn 22 [] [])) [(t 69), (t 70)]⟩, []), (⟨(some 66), none, .mv (t 71)⟩, []), (⟨(some 72), none, .ext 0 (t 66)⟩, []), (⟨(some 73), none, .ext 1 (t 66)⟩, []), (⟨(some 13), none, .mv (t 72)⟩, []), (⟨(some 14), none, .mv (t 73)⟩, [])])
  (.seq (.draw 0 [(⟨(some 75), none, .load true 8 (t 4)⟩, []), (⟨(some 76), none, .load true 8 (t 3)⟩, []), (⟨(some 77), none, .pcall (k (.fn 29 [] [])) [(k (.str [97, 110, 100])), (t 75), (t 76)]⟩, []), (⟨(some 78), none, .load true 3 (t 5)⟩, []), (⟨(some 79), none, .pcall (k (.fn 22 [] [])) [(t 77), (t 78)]⟩, []), (⟨(some 74), none, .mv (t 79)⟩, []), (⟨(some 80), none, .ext 0 (t 74)⟩, []), (⟨(some 81), none, .ext 1 (t 74)⟩, []), (⟨(some 15), none, .mv (t 80)⟩, []), (⟨(some 16), none, .mv (t 81)⟩, [])])
  (.seq (.reg [⟨(some 82), none, .mv (t 9)⟩, ⟨(some 83), none, .mv (t 11)⟩, ⟨(some 84), none, .eq1 .bool false (t 82) (t 83)⟩, ⟨(some 85), none, .mv (t 84)⟩, ⟨(some 86), (some (85, true)), .mv (t 10)⟩, ⟨(some 87), (some (85, true)), .mv (t 12)⟩, ⟨(some 88), (some (85, true)), .bin .eql (t 86) (t 87)⟩, ⟨(some 89), none, .pick (t 85) (t 88) (k (.bool false))⟩, ⟨(some 90), none, .mv (t 89)⟩, ⟨(some 91), (some (90, true)), .mv (t 13)⟩, ⟨(some 92), (some (90, true)), .mv (t 15)⟩, ⟨(some 93), (some (90, true)), .eq1 .bool false (t 91) (t 92)⟩, ⟨(some 94), none, .pick (t 90) (t 93) (k (.bool false))⟩, ⟨(some 95), none, .mv (t 94)⟩, ⟨(some 96), (some (95, true)), .mv (t 14)⟩, ⟨(some 97), (some (95, true)), .bin .eql (t 96) (k (.int .i64 0))⟩, ⟨(some 98), (some (95, true)), .mv (t 16)⟩, ⟨(some 99), (some (95, true)), .bin .eql (t 98) (k (.int .i64 0))⟩, ⟨(some 100), (some (95, true)), .eq1 .bool false (t 97) (t 99)⟩, ⟨(some 101), none, .pick (t 95) (t 100) (k (.bool false))⟩, ⟨(some 6), none, .mv (t 101)⟩])
  .ret)))))))))
theorem fn7 : Fn Go.Proofs.Try.prog 7 102 [.inl 6] c7 :=
  ⟨⟨_, _, Go.Proofs.Try.func7, rfl, by kernel_rfl, Go.Proofs.Try.ntmps7, by kernel_rfl, ⟨fun f => imp.contains f, false⟩, by kernel_rfl⟩⟩

def c9 : C :=
  (.seq (.reg [⟨(some 0), none, .mv (k .nils)⟩])
  (.seq (.reg [⟨(some 1), none, .bsl 1 [(k (.str [100, 101, 110, 121, 95, 111, 118, 101, 114, 114, 105, 100, 101, 115])), (k (.str [112, 101, 114, 109, 105, 116, 95, 111, 118, 101, 114, 114, 105, 100, 101, 115])), (k (.str [102, 105, 114, 115, 116])), (k (.str [111, 110, 108, 121, 95, 111, 110, 101])), (k (.str [100, 101, 110, 121, 95, 117, 110, 108, 101, 115, 115, 95, 112, 101, 114, 109, 105, 116])), (k (.str [112, 101, 114, 109, 105, 116, 95, 117, 110, 108, 101, 115, 115, 95, 100, 101, 110, 121]))]⟩, ⟨(some 0), none, .mv (t 1)⟩])
  .ret))
theorem fn9 : Fn Go.Proofs.Try.prog 9 2 [.inl 0] c9 :=
  ⟨⟨_, _, Go.Proofs.Try.func9, rfl, by kernel_rfl, Go.Proofs.Try.ntmps9, by kernel_rfl, ⟨fun f => imp.contains f, false⟩, by kernel_rfl⟩⟩

def c12 : C :=
  (.seq (.reg [⟨(some 1), none, .box (t 0)⟩, ⟨(some 2), none, .mv (k (.bool false))⟩])
  (.seq (.reg [⟨(some 3), none, .load true 8 (t 1)⟩, ⟨(some 4), none, .pcall (k (.fn 27 [] [])) [(t 3), (k (.int .i64 60))]⟩, ⟨(some 5), none, .bin .leq (t 4) (k (.int .i64 60))⟩, ⟨(some 6), none, .mv (t 5)⟩, ⟨(some 7), (some (6, true)), .load true 8 (t 1)⟩, ⟨(some 8), (some (6, true)), .pcall (k (.fn 31 [] [])) [(t 7)]⟩, ⟨(some 9), none, .pick (t 6) (t 8) (k (.bool false))⟩, ⟨(some 2), none, .mv (t 9)⟩])
  .ret))
theorem fn12 : Fn Go.Proofs.Try.prog 12 10 [.inl 2] c12 :=
  ⟨⟨_, _, Go.Proofs.Try.func12, rfl, by kernel_rfl, Go.Proofs.Try.ntmps12, by kernel_rfl, ⟨fun f => imp.contains f, false⟩, by kernel_rfl⟩⟩

def c17 : C :=
  (.seq (.reg [⟨(some 2), none, .box (t 0)⟩, ⟨(some 3), none, .box (t 1)⟩, ⟨(some 4), none, .alloc [(.int .i64 0), (.int .i64 0), (.str []), .nils]⟩, ⟨(some 5), none, .mv (k (.int .i64 0))⟩])
  (.seq (.seq (.reg [⟨(some 7), none, .load true 8 (t 2)⟩, ⟨(some 8), none, .load true 3 (t 3)⟩, ⟨(some 9), none, .pcall (k (.fn 35 [] [])) [(t 7), (t 8)]⟩, ⟨(some 6), none, .mv (t 9)⟩])
  (.seq (.reg [⟨(some 10), none, .mv (t 6)⟩, ⟨(some 11), none, .bin .neq (t 10) (k (.int .i64 0))⟩])
  (.cond (t 11)
  (.seq (.reg [⟨(some 12), none, .build [(.int .i64 0), (.int .i64 0), (.str []), .nils] []⟩, ⟨(some 13), none, .mv (t 6)⟩, ⟨none, none, .store 4 (t 4) (t 12)⟩, ⟨(some 5), none, .mv (t 13)⟩])
  .ret)
  .skip)))
  (.seq (.reg [⟨(some 14), none, .load true 3 (t 3)⟩, ⟨(some 15), none, .load true 8 (t 2)⟩, ⟨(some 16), none, .pcall (k (.fn 36 [] [])) [(t 14), (t 15)]⟩, ⟨(some 17), none, .ext 0 (t 16)⟩, ⟨(some 18), none, .ext 1 (t 16)⟩, ⟨none, none, .store 4 (t 4) (t 17)⟩, ⟨(some 5), none, .mv (t 18)⟩])
  .ret)))
theorem fn17 : Fn Go.Proofs.Try.prog 17 19 [.inr (4, true, 4), .inl 5] c17 :=
  ⟨⟨_, _, Go.Proofs.Try.func17, rfl, by kernel_rfl, Go.Proofs.Try.ntmps17, by kernel_rfl, ⟨fun f => imp.contains f, false⟩, by kernel_rfl⟩⟩

def c21 : C :=
  (.seq (.reg [⟨(some 2), none, .box (t 0)⟩, ⟨(some 3), none, .box (t 1)⟩, ⟨(some 4), none, .mv (k (.bool false))⟩])
  (.seq (.seq (.reg [⟨(some 8), none, .faddr 0 (t 2)⟩, ⟨(some 9), none, .load false 1 (t 8)⟩, ⟨(some 10), none, .faddr 0 (t 3)⟩, ⟨(some 11), none, .load false 1 (t 10)⟩, ⟨(some 12), none, .bin .neq (t 9) (t 11)⟩, ⟨(some 13), none, .mv (t 12)⟩, ⟨(some 14), (some (13, false)), .faddr 1 (t 2)⟩, ⟨(some 15), (some (13, false)), .load false 1 (t 14)⟩, ⟨(some 16), (some (13, false)), .faddr 1 (t 3)⟩, ⟨(some 17), (some (13, false)), .load false 1 (t 16)⟩, ⟨(some 18), (some (13, false)), .bin .neq (t 15) (t 17)⟩, ⟨(some 19), none, .pick (t 13) (k (.bool true)) (t 18)⟩, ⟨(some 20), none, .mv (t 19)⟩, ⟨(some 21), (some (20, false)), .faddr 2 (t 2)⟩, ⟨(some 22), (some (20, false)), .load false 1 (t 21)⟩, ⟨(some 23), (some (20, false)), .faddr 2 (t 3)⟩, ⟨(some 24), (some (20, false)), .load false 1 (t 23)⟩, ⟨(some 25), (some (20, false)), .bin .neq (t 22) (t 24)⟩, ⟨(some 26), none, .pick (t 20) (k (.bool true)) (t 25)⟩, ⟨(some 27), none, .mv (t 26)⟩, ⟨(some 28), (some (27, false)), .faddr 3 (t 2)⟩, ⟨(some 29), (some (27, false)), .load false 1 (t 28)⟩, ⟨(some 30), (some (27, false)), .len (t 29)⟩, ⟨(some 31), (some (27, false)), .faddr 3 (t 3)⟩, ⟨(some 32), (some (27, false)), .load false 1 (t 31)⟩, ⟨(some 33), (some (27, false)), .len (t 32)⟩, ⟨(some 34), (some (27, false)), .bin .neq (t 30) (t 33)⟩, ⟨(some 35), none, .pick (t 27) (k (.bool true)) (t 34)⟩])
  (.cond (t 35)
  (.seq (.reg [⟨(some 4), none, .mv (k (.bool false))⟩])
  .ret)
  .skip))
  (.seq (.seq (.reg [⟨(some 5), none, .mv (k (.int .i64 0))⟩])
  (.block 0
  (.loop
  (.seq (.seq (.reg [⟨(some 36), none, .mv (t 5)⟩, ⟨(some 37), none, .faddr 3 (t 2)⟩, ⟨(some 38), none, .load false 1 (t 37)⟩, ⟨(some 39), none, .len (t 38)⟩, ⟨(some 40), none, .bin .lss (t 36) (t 39)⟩])
  (.cond (t 40)
  .skip
  (.exit 0)))
  (.seq (.block 1
  (.seq (.draw 2 [(⟨(some 43), none, .faddr 3 (t 2)⟩, []), (⟨(some 44), none, .load false 1 (t 43)⟩, []), (⟨(some 45), none, .mv (t 5)⟩, []), (⟨(some 46), none, .iaddr 4 (t 44) (t 45)⟩, []), (⟨(some 47), none, .load true 4 (t 46)⟩, []), (⟨(some 48), none, .faddr 3 (t 3)⟩, []), (⟨(some 49), none, .load false 1 (t 48)⟩, []), (⟨(some 50), none, .mv (t 5)⟩, []), (⟨(some 51), none, .iaddr 4 (t 49) (t 50)⟩, []), (⟨(some 52), none, .load true 4 (t 51)⟩, []), (⟨(some 6), none, .rawAt 2 [(.int .i64 0), (.int .i64 0), (.str []), .nils]⟩, []), (⟨(some 7), none, .rawAt 1 [(.int .i64 0), (.int .i64 0), (.str []), .nils]⟩, []), (⟨none, none, .fillAt 2 4 (t 6) (t 47)⟩, []), (⟨none, none, .fillAt 1 4 (t 7) (t 52)⟩, [])])
  (.seq (.reg [⟨(some 53), none, .faddr 0 (t 6)⟩, ⟨(some 54), none, .load false 1 (t 53)⟩, ⟨(some 55), none, .faddr 0 (t 7)⟩, ⟨(some 56), none, .load false 1 (t 55)⟩, ⟨(some 57), none, .bin .neq (t 54) (t 56)⟩, ⟨(some 58), none, .mv (t 57)⟩, ⟨(some 59), (some (58, false)), .faddr 1 (t 6)⟩, ⟨(some 60), (some (58, false)), .load false 1 (t 59)⟩, ⟨(some 61), (some (58, false)), .faddr 1 (t 7)⟩, ⟨(some 62), (some (58, false)), .load false 1 (t 61)⟩, ⟨(some 63), (some (58, false)), .bin .neq (t 60) (t 62)⟩, ⟨(some 64), none, .pick (t 58) (k (.bool true)) (t 63)⟩, ⟨(some 65), none, .mv (t 64)⟩, ⟨(some 66), (some (65, false)), .faddr 2 (t 6)⟩, ⟨(some 67), (some (65, false)), .load false 1 (t 66)⟩, ⟨(some 68), (some (65, false)), .faddr 2 (t 7)⟩, ⟨(some 69), (some (65, false)), .load false 1 (t 68)⟩, ⟨(some 70), (some (65, false)), .bin .neq (t 67) (t 69)⟩, ⟨(some 71), none, .pick (t 65) (k (.bool true)) (t 70)⟩, ⟨(some 72), none, .mv (t 71)⟩, ⟨(some 73), (some (72, false)), .faddr 3 (t 6)⟩, ⟨(some 74), (some (72, false)), .load false 1 (t 73)⟩, ⟨(some 75), (some (72, false)), .len (t 74)⟩, ⟨(some 76), (some (72, false)), .bin .gtr (t 75) (k (.int .i64 0))⟩, ⟨(some 77), none, .pick (t 72) (k (.bool true)) (t 76)⟩, ⟨(some 78), none, .mv (t 77)⟩, ⟨(some 79), (some (78, false)), .faddr 3 (t 7)⟩, ⟨(some 80), (some (78, false)), .load false 1 (t 79)⟩, ⟨(some 81), (some (78, false)), .len (t 80)⟩, ⟨(some 82), (some (78, false)), .bin .gtr (t 81) (k (.int .i64 0))⟩, ⟨(some 83), none, .pick (t 78) (k (.bool true)) (t 82)⟩])
  (.cond (t 83)
  (.seq (.reg [⟨(some 4), none, .mv (k (.bool false))⟩])
  .ret)
  .skip))))
  (.reg [⟨(some 41), none, .mv (t 5)⟩, ⟨(some 42), none, .bin .add (t 41) (k (.int .i64 1))⟩, ⟨(some 5), none, .mv (t 42)⟩]))))))
  (.seq (.reg [⟨(some 4), none, .mv (k (.bool true))⟩])
  .ret))))
theorem fn21 : Fn Go.Proofs.Try.prog 21 84 [.inl 4] c21 :=
  ⟨⟨_, _, Go.Proofs.Try.func21, rfl, by kernel_rfl, Go.Proofs.Try.ntmps21, by kernel_rfl, ⟨fun f => imp.contains f, false⟩, by kernel_rfl⟩⟩

def c24 : C :=
  (.seq (.reg [⟨(some 1), none, .box (t 0)⟩, ⟨(some 2), none, .mv (k (.bool false))⟩])
  (.seq (.seq (.reg [⟨(some 3), none, .mv (k (.int .i64 0))⟩])
  (.block 0
  (.loop
  (.seq (.seq (.reg [⟨(some 4), none, .mv (t 3)⟩, ⟨(some 5), none, .faddr 2 (t 1)⟩, ⟨(some 6), none, .load false 1 (t 5)⟩, ⟨(some 7), none, .len (t 6)⟩, ⟨(some 8), none, .bin .lss (t 4) (t 7)⟩])
  (.cond (t 8)
  .skip
  (.exit 0)))
  (.seq (.block 1
  (.seq (.reg [⟨(some 11), none, .faddr 2 (t 1)⟩, ⟨(some 12), none, .load false 1 (t 11)⟩, ⟨(some 13), none, .mv (t 3)⟩, ⟨(some 14), none, .iaddr 6 (t 12) (t 13)⟩, ⟨(some 15), none, .faddr 2 (t 14)⟩, ⟨(some 16), none, .load true 4 (t 15)⟩, ⟨(some 17), none, .pcall (k (.fn 18 [] [])) [(t 16)]⟩, ⟨(some 18), none, .un .not (t 17)⟩, ⟨(some 19), none, .mv (t 18)⟩, ⟨(some 20), (some (19, false)), .faddr 2 (t 1)⟩, ⟨(some 21), (some (19, false)), .load false 1 (t 20)⟩, ⟨(some 22), (some (19, false)), .mv (t 3)⟩, ⟨(some 23), (some (19, false)), .iaddr 6 (t 21) (t 22)⟩, ⟨(some 24), (some (19, false)), .faddr 2 (t 23)⟩, ⟨(some 25), (some (19, false)), .faddr 0 (t 24)⟩, ⟨(some 26), (some (19, false)), .load false 1 (t 25)⟩, ⟨(some 27), (some (19, false)), .bin .eql (t 26) (k (.int .i64 0))⟩, ⟨(some 28), none, .pick (t 19) (k (.bool true)) (t 27)⟩])
  (.cond (t 28)
  (.seq (.reg [⟨(some 2), none, .mv (k (.bool false))⟩])
  .ret)
  .skip)))
  (.reg [⟨(some 9), none, .mv (t 3)⟩, ⟨(some 10), none, .bin .add (t 9) (k (.int .i64 1))⟩, ⟨(some 3), none, .mv (t 10)⟩]))))))
  (.seq (.reg [⟨(some 29), none, .faddr 0 (t 1)⟩, ⟨(some 30), none, .load false 1 (t 29)⟩, ⟨(some 31), none, .bin .geq (t 30) (k (.int .i64 0))⟩, ⟨(some 32), none, .mv (t 31)⟩, ⟨(some 33), (some (32, true)), .faddr 0 (t 1)⟩, ⟨(some 34), (some (32, true)), .load false 1 (t 33)⟩, ⟨(some 35), (some (32, true)), .bin .leq (t 34) (k (.int .i64 1099511627776))⟩, ⟨(some 36), none, .pick (t 32) (t 35) (k (.bool false))⟩, ⟨(some 2), none, .mv (t 36)⟩])
  .ret)))
theorem fn24 : Fn Go.Proofs.Try.prog 24 37 [.inl 2] c24 :=
  ⟨⟨_, _, Go.Proofs.Try.func24, rfl, by kernel_rfl, Go.Proofs.Try.ntmps24, by kernel_rfl, ⟨fun f => imp.contains f, false⟩, by kernel_rfl⟩⟩

def c25 : C :=
  (.seq (.reg [⟨(some 1), none, .box (t 0)⟩, ⟨(some 2), none, .mv (k (.bool false))⟩])
  (.seq (.reg [⟨(some 3), none, .mv (k (.int .i64 (-1)))⟩])
  (.seq (.seq (.reg [⟨(some 5), none, .faddr 0 (t 1)⟩, ⟨(some 6), none, .load false 1 (t 5)⟩])
  (.block 0
  (.seq (.reg [⟨(some 8), none, .bin .eql (t 6) (k (.str [118, 97, 108, 117, 101]))⟩, ⟨(some 7), none, .mv (t 8)⟩])
  (.cond (t 7)
  (.seq (.seq (.reg [⟨(some 9), none, .faddr 1 (t 1)⟩, ⟨(some 10), none, .load true 4 (t 9)⟩, ⟨(some 11), none, .pcall (k (.fn 18 [] [])) [(t 10)]⟩, ⟨(some 12), none, .un .not (t 11)⟩, ⟨(some 13), none, .mv (t 12)⟩, ⟨(some 14), (some (13, false)), .faddr 1 (t 1)⟩, ⟨(some 15), (some (13, false)), .faddr 0 (t 14)⟩, ⟨(some 16), (some (13, false)), .load false 1 (t 15)⟩, ⟨(some 17), (some (13, false)), .bin .eql (t 16) (k (.int .i64 0))⟩, ⟨(some 18), none, .pick (t 13) (k (.bool true)) (t 17)⟩, ⟨(some 19), none, .mv (t 18)⟩, ⟨(some 20), (some (19, false)), .faddr 1 (t 1)⟩, ⟨(some 21), (some (19, false)), .faddr 0 (t 20)⟩, ⟨(some 22), (some (19, false)), .load false 1 (t 21)⟩, ⟨(some 23), (some (19, false)), .bin .eql (t 22) (k (.int .i64 5))⟩, ⟨(some 24), (some (19, false)), .mv (t 23)⟩, ⟨(some 25), (some (24, true)), .faddr 1 (t 1)⟩, ⟨(some 26), (some (24, true)), .faddr 3 (t 25)⟩, ⟨(some 27), (some (24, true)), .load false 1 (t 26)⟩, ⟨(some 28), (some (24, true)), .len (t 27)⟩, ⟨(some 29), (some (24, true)), .bin .eql (t 28) (k (.int .i64 0))⟩, ⟨(some 30), (some (19, false)), .pick (t 24) (t 29) (k (.bool false))⟩, ⟨(some 31), none, .pick (t 19) (k (.bool true)) (t 30)⟩])
  (.cond (t 31)
  (.seq (.reg [⟨(some 2), none, .mv (k (.bool false))⟩])
  .ret)
  .skip))
  (.reg [⟨(some 3), none, .mv (k (.int .i64 0))⟩]))
  (.seq (.seq (.reg [⟨(some 33), none, .bin .eql (t 6) (k (.str [110, 111, 119]))⟩, ⟨(some 32), none, .mv (t 33)⟩])
  (.cond (t 32)
  .skip
  (.seq (.reg [⟨(some 34), none, .bin .eql (t 6) (k (.str [97, 116, 116, 114]))⟩, ⟨(some 32), none, .mv (t 34)⟩])
  (.cond (t 32)
  .skip
  (.seq (.reg [⟨(some 35), none, .bin .eql (t 6) (k (.str [104, 97, 115]))⟩, ⟨(some 32), none, .mv (t 35)⟩])
  (.cond (t 32)
  .skip
  (.reg [⟨(some 36), none, .bin .eql (t 6) (k (.str [114, 111, 108, 101]))⟩, ⟨(some 32), none, .mv (t 36)⟩])))))))
  (.cond (t 32)
  (.reg [⟨(some 3), none, .mv (k (.int .i64 0))⟩])
  (.seq (.seq (.reg [⟨(some 38), none, .bin .eql (t 6) (k (.str [110, 111, 116]))⟩, ⟨(some 37), none, .mv (t 38)⟩])
  (.cond (t 37)
  .skip
  (.seq (.reg [⟨(some 39), none, .bin .eql (t 6) (k (.str [110, 101, 103]))⟩, ⟨(some 37), none, .mv (t 39)⟩])
  (.cond (t 37)
  .skip
  (.reg [⟨(some 40), none, .bin .eql (t 6) (k (.str [115, 105, 122, 101]))⟩, ⟨(some 37), none, .mv (t 40)⟩])))))
  (.cond (t 37)
  (.reg [⟨(some 3), none, .mv (k (.int .i64 1))⟩])
  (.seq (.seq (.reg [⟨(some 42), none, .bin .eql (t 6) (k (.str [97, 110, 100]))⟩, ⟨(some 41), none, .mv (t 42)⟩])
  (.cond (t 41)
  .skip
  (.seq (.reg [⟨(some 43), none, .bin .eql (t 6) (k (.str [111, 114]))⟩, ⟨(some 41), none, .mv (t 43)⟩])
  (.cond (t 41)
  .skip
  (.seq (.reg [⟨(some 44), none, .bin .eql (t 6) (k (.str [43]))⟩, ⟨(some 41), none, .mv (t 44)⟩])
  (.cond (t 41)
  .skip
  (.seq (.reg [⟨(some 45), none, .bin .eql (t 6) (k (.str [45]))⟩, ⟨(some 41), none, .mv (t 45)⟩])
  (.cond (t 41)
  .skip
  (.seq (.reg [⟨(some 46), none, .bin .eql (t 6) (k (.str [42]))⟩, ⟨(some 41), none, .mv (t 46)⟩])
  (.cond (t 41)
  .skip
  (.seq (.reg [⟨(some 47), none, .bin .eql (t 6) (k (.str [61, 61]))⟩, ⟨(some 41), none, .mv (t 47)⟩])
  (.cond (t 41)
  .skip
  (.seq (.reg [⟨(some 48), none, .bin .eql (t 6) (k (.str [33, 61]))⟩, ⟨(some 41), none, .mv (t 48)⟩])
  (.cond (t 41)
  .skip
  (.seq (.reg [⟨(some 49), none, .bin .eql (t 6) (k (.str [60]))⟩, ⟨(some 41), none, .mv (t 49)⟩])
  (.cond (t 41)
  .skip
  (.seq (.reg [⟨(some 50), none, .bin .eql (t 6) (k (.str [60, 61]))⟩, ⟨(some 41), none, .mv (t 50)⟩])
  (.cond (t 41)
  .skip
  (.seq (.reg [⟨(some 51), none, .bin .eql (t 6) (k (.str [62]))⟩, ⟨(some 41), none, .mv (t 51)⟩])
  (.cond (t 41)
  .skip
  (.seq (.reg [⟨(some 52), none, .bin .eql (t 6) (k (.str [62, 61]))⟩, ⟨(some 41), none, .mv (t 52)⟩])
  (.cond (t 41)
  .skip
  (.reg [⟨(some 53), none, .bin .eql (t 6) (k (.str [105, 110]))⟩, ⟨(some 41), none, .mv (t 53)⟩])))))))))))))))))))))))
  (.cond (t 41)
  (.reg [⟨(some 3), none, .mv (k (.int .i64 2))⟩])
  .skip))))))))))
  (.seq (.seq (.reg [⟨(some 54), none, .faddr 7 (t 1)⟩, ⟨(some 55), none, .load false 1 (t 54)⟩, ⟨(some 56), none, .len (t 55)⟩, ⟨(some 57), none, .mv (t 3)⟩, ⟨(some 58), none, .bin .neq (t 56) (t 57)⟩])
  (.cond (t 58)
  (.seq (.reg [⟨(some 2), none, .mv (k (.bool false))⟩])
  .ret)
  .skip))
  (.seq (.seq (.reg [⟨(some 4), none, .mv (k (.int .i64 0))⟩])
  (.block 1
  (.loop
  (.seq (.seq (.reg [⟨(some 59), none, .mv (t 4)⟩, ⟨(some 60), none, .faddr 7 (t 1)⟩, ⟨(some 61), none, .load false 1 (t 60)⟩, ⟨(some 62), none, .len (t 61)⟩, ⟨(some 63), none, .bin .lss (t 59) (t 62)⟩])
  (.cond (t 63)
  .skip
  (.exit 1)))
  (.seq (.block 2
  (.seq (.reg [⟨(some 66), none, .faddr 7 (t 1)⟩, ⟨(some 67), none, .load false 1 (t 66)⟩, ⟨(some 68), none, .mv (t 4)⟩, ⟨(some 69), none, .iaddr 8 (t 67) (t 68)⟩, ⟨(some 70), none, .load true 8 (t 69)⟩, ⟨(some 71), none, .pcall (k (.fn 25 [] [])) [(t 70)]⟩, ⟨(some 72), none, .un .not (t 71)⟩])
  (.cond (t 72)
  (.seq (.reg [⟨(some 2), none, .mv (k (.bool false))⟩])
  .ret)
  .skip)))
  (.reg [⟨(some 64), none, .mv (t 4)⟩, ⟨(some 65), none, .bin .add (t 64) (k (.int .i64 1))⟩, ⟨(some 4), none, .mv (t 65)⟩]))))))
  (.seq (.reg [⟨(some 2), none, .mv (k (.bool true))⟩])
  .ret))))))
theorem fn25 : Fn Go.Proofs.Try.prog 25 73 [.inl 2] c25 :=
  ⟨⟨_, _, Go.Proofs.Try.func25, rfl, by kernel_rfl, Go.Proofs.Try.ntmps25, by kernel_rfl, ⟨fun f => imp.contains f, false⟩, by kernel_rfl⟩⟩

def c27 : C :=
  (.seq (.reg [⟨(some 2), none, .box (t 0)⟩, ⟨(some 4), none, .mv (k (.int .i64 0))⟩])
  (.seq (.reg [⟨(some 5), none, .mv (k (.int .i64 1))⟩])
  (.seq (.seq (.reg [⟨(some 6), none, .mv (k (.int .i64 0))⟩])
  (.block 0
  (.loop
  (.seq (.seq (.reg [⟨(some 7), none, .mv (t 6)⟩, ⟨(some 8), none, .faddr 7 (t 2)⟩, ⟨(some 9), none, .load false 1 (t 8)⟩, ⟨(some 10), none, .len (t 9)⟩, ⟨(some 11), none, .bin .lss (t 7) (t 10)⟩, ⟨(some 12), none, .mv (t 11)⟩, ⟨(some 13), (some (12, true)), .mv (t 5)⟩, ⟨(some 14), (some (12, true)), .mv (t 1)⟩, ⟨(some 15), (some (12, true)), .bin .leq (t 13) (t 14)⟩, ⟨(some 16), none, .pick (t 12) (t 15) (k (.bool false))⟩])
  (.cond (t 16)
  .skip
  (.exit 0)))
  (.seq (.block 1
  (.reg [⟨(some 19), none, .mv (t 5)⟩, ⟨(some 20), none, .faddr 7 (t 2)⟩, ⟨(some 21), none, .load false 1 (t 20)⟩, ⟨(some 22), none, .mv (t 6)⟩, ⟨(some 23), none, .iaddr 8 (t 21) (t 22)⟩, ⟨(some 24), none, .load true 8 (t 23)⟩, ⟨(some 25), none, .mv (t 1)⟩, ⟨(some 26), none, .mv (t 5)⟩, ⟨(some 27), none, .bin .sub (t 25) (t 26)⟩, ⟨(some 28), none, .pcall (k (.fn 27 [] [])) [(t 24), (t 27)]⟩, ⟨(some 29), none, .bin .add (t 19) (t 28)⟩, ⟨(some 5), none, .mv (t 29)⟩]))
  (.reg [⟨(some 17), none, .mv (t 6)⟩, ⟨(some 18), none, .bin .add (t 17) (k (.int .i64 1))⟩, ⟨(some 6), none, .mv (t 18)⟩]))))))
  (.seq (.reg [⟨(some 30), none, .mv (t 5)⟩, ⟨(some 4), none, .mv (t 30)⟩])
  .ret))))
theorem fn27 : Fn Go.Proofs.Try.prog 27 31 [.inl 4] c27 :=
  ⟨⟨_, _, Go.Proofs.Try.func27, rfl, by kernel_rfl, Go.Proofs.Try.ntmps27, by kernel_rfl, ⟨fun f => imp.contains f, false⟩, by kernel_rfl⟩⟩

def c42 : C :=
  (.seq (.reg [⟨(some 4), none, .box (t 1)⟩, ⟨(some 5), none, .box (t 2)⟩, ⟨(some 6), none, .alloc [(.int .i64 0), (.int .i64 0), (.str []), .nils]⟩, ⟨(some 7), none, .mv (k (.int .i64 0))⟩])
  (.seq (.seq (.reg [⟨(some 8), none, .mv (k (.int .i64 0))⟩])
  (.block 0
  (.loop
  (.seq (.seq (.reg [⟨(some 10), none, .mv (t 8)⟩, ⟨(some 11), none, .bin .lss (t 10) (k (.int .i64 2))⟩])
  (.cond (t 11)
  .skip
  (.exit 0)))
  (.seq (.block 1
  (.seq (.reg [⟨(some 14), none, .mv (t 8)⟩, ⟨(some 15), none, .iarr 1 2 (t 5) (t 14)⟩, ⟨(some 16), none, .load false 1 (t 15)⟩, ⟨(some 17), none, .bin .eql (t 16) (k (.int .i64 0))⟩, ⟨(some 18), none, .mv (t 17)⟩, ⟨(some 19), (some (18, true)), .mv (t 8)⟩, ⟨(some 20), (some (18, true)), .iarr 4 2 (t 4) (t 19)⟩, ⟨(some 21), (some (18, true)), .faddr 0 (t 20)⟩, ⟨(some 22), (some (18, true)), .load false 1 (t 21)⟩, ⟨(some 23), (some (18, true)), .bin .eql (t 22) (k (.int .i64 1))⟩, ⟨(some 24), none, .pick (t 18) (t 23) (k (.bool false))⟩, ⟨(some 25), none, .mv (t 24)⟩, ⟨(some 26), (some (25, true)), .mv (t 8)⟩, ⟨(some 27), (some (25, true)), .iarr 4 2 (t 4) (t 26)⟩, ⟨(some 28), (some (25, true)), .faddr 1 (t 27)⟩, ⟨(some 29), (some (25, true)), .load false 1 (t 28)⟩, ⟨(some 30), (some (25, true)), .bin .eql (t 29) (k (.int .i64 1))⟩, ⟨(some 31), (some (25, true)), .mv (t 0)⟩, ⟨(some 32), (some (25, true)), .eq1 .bool false (t 30) (t 31)⟩, ⟨(some 33), none, .pick (t 25) (t 32) (k (.bool false))⟩])
  (.cond (t 33)
  (.seq (.reg [⟨(some 34), none, .mv (t 0)⟩, ⟨(some 35), none, .pcall (k (.fn 43 [] [])) [(t 34)]⟩, ⟨none, none, .store 4 (t 6) (t 35)⟩, ⟨(some 7), none, .mv (k (.int .i64 0))⟩])
  .ret)
  .skip)))
  (.reg [⟨(some 12), none, .mv (t 8)⟩, ⟨(some 13), none, .bin .add (t 12) (k (.int .i64 1))⟩, ⟨(some 8), none, .mv (t 13)⟩]))))))
  (.seq (.seq (.reg [⟨(some 9), none, .mv (k (.int .i64 0))⟩])
  (.block 2
  (.loop
  (.seq (.seq (.reg [⟨(some 36), none, .mv (t 9)⟩, ⟨(some 37), none, .bin .lss (t 36) (k (.int .i64 2))⟩])
  (.cond (t 37)
  .skip
  (.exit 2)))
  (.seq (.block 3
  (.seq (.seq (.reg [⟨(some 40), none, .mv (t 9)⟩, ⟨(some 41), none, .iarr 1 2 (t 5) (t 40)⟩, ⟨(some 42), none, .load false 1 (t 41)⟩, ⟨(some 43), none, .bin .neq (t 42) (k (.int .i64 0))⟩])
  (.cond (t 43)
  (.seq (.draw 0 [(⟨(some 44), none, .build [(.int .i64 0), (.int .i64 0), (.str []), .nils] []⟩, []), (⟨(some 45), none, .mv (t 9)⟩, []), (⟨(some 46), none, .iarr 1 2 (t 5) (t 45)⟩, []), (⟨(some 47), none, .load false 1 (t 46)⟩, []), (⟨none, none, .store 4 (t 6) (t 44)⟩, [⟨(some 47), none, .load false 1 (t 46)⟩]), (⟨(some 7), none, .mv (t 47)⟩, [])])
  .ret)
  .skip))
  (.seq (.reg [⟨(some 48), none, .mv (t 9)⟩, ⟨(some 49), none, .iarr 4 2 (t 4) (t 48)⟩, ⟨(some 50), none, .faddr 0 (t 49)⟩, ⟨(some 51), none, .load false 1 (t 50)⟩, ⟨(some 52), none, .bin .neq (t 51) (k (.int .i64 1))⟩])
  (.cond (t 52)
  (.seq (.reg [⟨(some 53), none, .build [(.int .i64 0), (.int .i64 0), (.str []), .nils] []⟩, ⟨none, none, .store 4 (t 6) (t 53)⟩, ⟨(some 7), none, .mv (k (.int .i64 6))⟩])
  .ret)
  .skip))))
  (.reg [⟨(some 38), none, .mv (t 9)⟩, ⟨(some 39), none, .bin .add (t 38) (k (.int .i64 1))⟩, ⟨(some 9), none, .mv (t 39)⟩]))))))
  (.seq (.reg [⟨(some 54), none, .mv (t 0)⟩, ⟨(some 55), none, .un .not (t 54)⟩, ⟨(some 56), none, .pcall (k (.fn 43 [] [])) [(t 55)]⟩, ⟨none, none, .store 4 (t 6) (t 56)⟩, ⟨(some 7), none, .mv (k (.int .i64 0))⟩])
  .ret))))
theorem fn42 : Fn Go.Proofs.Try.prog 42 57 [.inr (6, true, 4), .inl 7] c42 :=
  ⟨⟨_, _, Go.Proofs.Try.func42, rfl, by kernel_rfl, Go.Proofs.Try.ntmps42, by kernel_rfl, ⟨fun f => imp.contains f, false⟩, by kernel_rfl⟩⟩

def c53 : C :=
  (.seq (.reg [⟨(some 3), none, .box (t 0)⟩, ⟨(some 4), none, .box (t 1)⟩, ⟨(some 6), none, .alloc [(.int .i64 0), (.int .i64 0), (.str []), .nils]⟩, ⟨(some 7), none, .mv (k (.int .i64 0))⟩])
  (.seq (.draw 0 [(⟨(some 13), none, .load true 3 (t 3)⟩, []), (⟨(some 14), none, .faddr 7 (t 4)⟩, []), (⟨(some 15), none, .load false 1 (t 14)⟩, []), (⟨(some 16), none, .iaddr 8 (t 15) (k (.int .i64 0))⟩, []), (⟨(some 17), none, .load true 8 (t 16)⟩, []), (⟨(some 18), none, .pcall (k (.fn 39 [] [])) [(t 13), (t 17)]⟩, []), (⟨(some 12), none, .mv (t 18)⟩, []), (⟨(some 19), none, .ext 0 (t 12)⟩, []), (⟨(some 20), none, .ext 1 (t 12)⟩, []), (⟨(some 8), none, .mv (t 19)⟩, []), (⟨(some 9), none, .mv (t 20)⟩, [])])
  (.seq (.draw 0 [(⟨(some 22), none, .load true 3 (t 3)⟩, []), (⟨(some 23), none, .faddr 7 (t 4)⟩, []), (⟨(some 24), none, .load false 1 (t 23)⟩, []), (⟨(some 25), none, .iaddr 8 (t 24) (k (.int .i64 1))⟩, []), (⟨(some 26), none, .load true 8 (t 25)⟩, []), (⟨(some 27), none, .pcall (k (.fn 39 [] [])) [(t 22), (t 26)]⟩, []), (⟨(some 21), none, .mv (t 27)⟩, []), (⟨(some 28), none, .ext 0 (t 21)⟩, []), (⟨(some 29), none, .ext 1 (t 21)⟩, []), (⟨(some 10), none, .mv (t 28)⟩, []), (⟨(some 11), none, .mv (t 29)⟩, [])])
  (.seq (.block 0
  (.seq (.seq (.reg [⟨(some 31), none, .mv (t 9)⟩, ⟨(some 32), none, .bin .eql (t 31) (k (.int .i64 0))⟩, ⟨(some 33), none, .mv (t 32)⟩, ⟨(some 34), (some (33, true)), .mv (t 8)⟩, ⟨(some 35), (some (33, true)), .mv (t 2)⟩, ⟨(some 36), (some (33, true)), .eq1 .bool false (t 34) (t 35)⟩, ⟨(some 37), none, .pick (t 33) (t 36) (k (.bool false))⟩, ⟨(some 30), none, .mv (t 37)⟩])
  (.cond (t 30)
  .skip
  (.reg [⟨(some 38), none, .mv (t 11)⟩, ⟨(some 39), none, .bin .eql (t 38) (k (.int .i64 0))⟩, ⟨(some 40), none, .mv (t 39)⟩, ⟨(some 41), (some (40, true)), .mv (t 10)⟩, ⟨(some 42), (some (40, true)), .mv (t 2)⟩, ⟨(some 43), (some (40, true)), .eq1 .bool false (t 41) (t 42)⟩, ⟨(some 44), none, .pick (t 40) (t 43) (k (.bool false))⟩, ⟨(some 30), none, .mv (t 44)⟩])))
  (.cond (t 30)
  (.seq (.reg [⟨(some 45), none, .mv (t 2)⟩, ⟨(some 46), none, .pcall (k (.fn 72 [] [])) [(t 45)]⟩, ⟨none, none, .store 4 (t 6) (t 46)⟩, ⟨(some 7), none, .mv (k (.int .i64 0))⟩])
  .ret)
  (.seq (.reg [⟨(some 48), none, .mv (t 9)⟩, ⟨(some 49), none, .bin .neq (t 48) (k (.int .i64 0))⟩, ⟨(some 47), none, .mv (t 49)⟩])
  (.cond (t 47)
  (.seq (.reg [⟨(some 50), none, .build [(.int .i64 0), (.int .i64 0), (.str []), .nils] []⟩, ⟨(some 51), none, .mv (t 9)⟩, ⟨none, none, .store 4 (t 6) (t 50)⟩, ⟨(some 7), none, .mv (t 51)⟩])
  .ret)
  (.seq (.reg [⟨(some 53), none, .mv (t 11)⟩, ⟨(some 54), none, .bin .neq (t 53) (k (.int .i64 0))⟩, ⟨(some 52), none, .mv (t 54)⟩])
  (.cond (t 52)
  (.seq (.reg [⟨(some 55), none, .build [(.int .i64 0), (.int .i64 0), (.str []), .nils] []⟩, ⟨(some 56), none, .mv (t 11)⟩, ⟨none, none, .store 4 (t 6) (t 55)⟩, ⟨(some 7), none, .mv (t 56)⟩])
  .ret)
  .skip)))))))
  (.seq (.reg [⟨(some 57), none, .mv (t 2)⟩, ⟨(some 58), none, .un .not (t 57)⟩, ⟨(some 59), none, .pcall (k (.fn 72 [] [])) [(t 58)]⟩, ⟨none, none, .store 4 (t 6) (t 59)⟩, ⟨(some 7), none, .mv (k (.int .i64 0))⟩])
  .ret)))))
theorem fn53 : Fn Go.Proofs.Try.prog 53 60 [.inr (6, true, 4), .inl 7] c53 :=
  ⟨⟨_, _, Go.Proofs.Try.func53, rfl, by kernel_rfl, Go.Proofs.Try.ntmps53, by kernel_rfl, ⟨fun f => imp.contains f, false⟩, by kernel_rfl⟩⟩

def c54 : C :=
  (.seq (.reg [⟨(some 3), none, .box (t 1)⟩, ⟨(some 4), none, .alloc [(.int .i64 0), (.int .i64 0), (.str []), .nils]⟩, ⟨(some 5), none, .mv (k (.int .i64 0))⟩])
  (.seq (.block 0
  (.seq (.reg [⟨(some 7), none, .mv (t 0)⟩, ⟨(some 8), none, .bin .eql (t 7) (k (.str [110, 111, 116]))⟩, ⟨(some 9), none, .mv (t 8)⟩, ⟨(some 10), (some (9, true)), .faddr 0 (t 3)⟩, ⟨(some 11), (some (9, true)), .load false 1 (t 10)⟩, ⟨(some 12), (some (9, true)), .bin .eql (t 11) (k (.int .i64 1))⟩, ⟨(some 13), none, .pick (t 9) (t 12) (k (.bool false))⟩, ⟨(some 6), none, .mv (t 13)⟩])
  (.cond (t 6)
  (.seq (.reg [⟨(some 14), none, .faddr 1 (t 3)⟩, ⟨(some 15), none, .load false 1 (t 14)⟩, ⟨(some 16), none, .bin .eql (t 15) (k (.int .i64 0))⟩, ⟨(some 17), none, .pcall (k (.fn 72 [] [])) [(t 16)]⟩, ⟨none, none, .store 4 (t 4) (t 17)⟩, ⟨(some 5), none, .mv (k (.int .i64 0))⟩])
  .ret)
  (.seq (.reg [⟨(some 19), none, .mv (t 0)⟩, ⟨(some 20), none, .bin .eql (t 19) (k (.str [110, 101, 103]))⟩, ⟨(some 21), none, .mv (t 20)⟩, ⟨(some 22), (some (21, true)), .faddr 0 (t 3)⟩, ⟨(some 23), (some (21, true)), .load false 1 (t 22)⟩, ⟨(some 24), (some (21, true)), .bin .eql (t 23) (k (.int .i64 2))⟩, ⟨(some 25), none, .pick (t 21) (t 24) (k (.bool false))⟩, ⟨(some 18), none, .mv (t 25)⟩])
  (.cond (t 18)
  (.seq (.draw 0 [(⟨(some 26), none, .pcall (k (.fn 76 [] [])) [(k (.int .i64 0))]⟩, []), (⟨(some 27), none, .load true 4 (t 3)⟩, []), (⟨(some 28), none, .pcall (k (.fn 75 [] [])) [(t 26), (t 27)]⟩, []), (⟨(some 29), none, .ext 0 (t 28)⟩, []), (⟨(some 30), none, .ext 1 (t 28)⟩, []), (⟨none, none, .store 4 (t 4) (t 29)⟩, []), (⟨(some 5), none, .mv (t 30)⟩, [])])
  .ret)
  (.seq (.reg [⟨(some 32), none, .mv (t 0)⟩, ⟨(some 33), none, .bin .eql (t 32) (k (.str [115, 105, 122, 101]))⟩, ⟨(some 34), none, .mv (t 33)⟩, ⟨(some 35), (some (34, true)), .faddr 0 (t 3)⟩, ⟨(some 36), (some (34, true)), .load false 1 (t 35)⟩, ⟨(some 37), (some (34, true)), .bin .eql (t 36) (k (.int .i64 5))⟩, ⟨(some 38), none, .pick (t 34) (t 37) (k (.bool false))⟩, ⟨(some 31), none, .mv (t 38)⟩])
  (.cond (t 31)
  (.seq (.reg [⟨(some 39), none, .faddr 3 (t 3)⟩, ⟨(some 40), none, .load false 1 (t 39)⟩, ⟨(some 41), none, .len (t 40)⟩, ⟨(some 42), none, .pcall (k (.fn 76 [] [])) [(t 41)]⟩, ⟨none, none, .store 4 (t 4) (t 42)⟩, ⟨(some 5), none, .mv (k (.int .i64 0))⟩])
  .ret)
  .skip)))))))
  (.seq (.reg [⟨(some 43), none, .build [(.int .i64 0), (.int .i64 0), (.str []), .nils] []⟩, ⟨none, none, .store 4 (t 4) (t 43)⟩, ⟨(some 5), none, .mv (k (.int .i64 6))⟩])
  .ret)))
theorem fn54 : Fn Go.Proofs.Try.prog 54 44 [.inr (4, true, 4), .inl 5] c54 :=
  ⟨⟨_, _, Go.Proofs.Try.func54, rfl, by kernel_rfl, Go.Proofs.Try.ntmps54, by kernel_rfl, ⟨fun f => imp.contains f, false⟩, by kernel_rfl⟩⟩

def c57 : C :=
  (.seq (.reg [⟨(some 4), none, .mv (k (.int .i64 0))⟩])
  (.seq (.seq (.reg [⟨(some 5), none, .mv (k (.int .i64 0))⟩])
  (.block 0
  (.loop
  (.seq (.seq (.reg [⟨(some 6), none, .mv (t 5)⟩, ⟨(some 7), none, .mv (t 0)⟩, ⟨(some 8), none, .lens (t 7)⟩, ⟨(some 9), none, .bin .lss (t 6) (t 8)⟩, ⟨(some 10), none, .mv (t 9)⟩, ⟨(some 11), (some (10, true)), .mv (t 5)⟩, ⟨(some 12), (some (10, true)), .mv (t 1)⟩, ⟨(some 13), (some (10, true)), .lens (t 12)⟩, ⟨(some 14), (some (10, true)), .bin .lss (t 11) (t 13)⟩, ⟨(some 15), none, .pick (t 10) (t 14) (k (.bool false))⟩])
  (.cond (t 15)
  .skip
  (.exit 0)))
  (.seq (.block 1
  (.seq (.seq (.draw 0 [(⟨(some 18), none, .mv (t 0)⟩, []), (⟨(some 19), none, .mv (t 5)⟩, []), (⟨(some 20), none, .idxs (t 18) (t 19)⟩, []), (⟨(some 21), none, .mv (t 1)⟩, []), (⟨(some 22), none, .mv (t 5)⟩, []), (⟨(some 23), none, .idxs (t 21) (t 22)⟩, []), (⟨(some 24), none, .bin .lss (t 20) (t 23)⟩, [])])
  (.cond (t 24)
  (.seq (.reg [⟨(some 4), none, .mv (k (.int .i64 (-1)))⟩])
  .ret)
  .skip))
  (.seq (.draw 0 [(⟨(some 25), none, .mv (t 0)⟩, []), (⟨(some 26), none, .mv (t 5)⟩, []), (⟨(some 27), none, .idxs (t 25) (t 26)⟩, []), (⟨(some 28), none, .mv (t 1)⟩, []), (⟨(some 29), none, .mv (t 5)⟩, []), (⟨(some 30), none, .idxs (t 28) (t 29)⟩, []), (⟨(some 31), none, .bin .gtr (t 27) (t 30)⟩, [])])
  (.cond (t 31)
  (.seq (.reg [⟨(some 4), none, .mv (k (.int .i64 1))⟩])
  .ret)
  .skip))))
  (.reg [⟨(some 16), none, .mv (t 5)⟩, ⟨(some 17), none, .bin .add (t 16) (k (.int .i64 1))⟩, ⟨(some 5), none, .mv (t 17)⟩]))))))
  (.seq (.seq (.reg [⟨(some 32), none, .mv (t 0)⟩, ⟨(some 33), none, .lens (t 32)⟩, ⟨(some 34), none, .mv (t 1)⟩, ⟨(some 35), none, .lens (t 34)⟩, ⟨(some 36), none, .bin .lss (t 33) (t 35)⟩])
  (.cond (t 36)
  (.seq (.reg [⟨(some 4), none, .mv (k (.int .i64 (-1)))⟩])
  .ret)
  .skip))
  (.seq (.seq (.reg [⟨(some 37), none, .mv (t 0)⟩, ⟨(some 38), none, .lens (t 37)⟩, ⟨(some 39), none, .mv (t 1)⟩, ⟨(some 40), none, .lens (t 39)⟩, ⟨(some 41), none, .bin .gtr (t 38) (t 40)⟩])
  (.cond (t 41)
  (.seq (.reg [⟨(some 4), none, .mv (k (.int .i64 1))⟩])
  .ret)
  .skip))
  (.seq (.reg [⟨(some 4), none, .mv (k (.int .i64 0))⟩])
  .ret)))))
theorem fn57 : Fn Go.Proofs.Try.prog 57 42 [.inl 4] c57 :=
  ⟨⟨_, _, Go.Proofs.Try.func57, rfl, by kernel_rfl, Go.Proofs.Try.ntmps57, by kernel_rfl, ⟨fun f => imp.contains f, false⟩, by kernel_rfl⟩⟩

def c71 : C :=
  (.seq (.reg [⟨(some 1), none, .box (t 0)⟩, ⟨(some 2), none, .mv (k (.bool false))⟩])
  (.seq (.reg [⟨(some 3), none, .load true 8 (t 1)⟩, ⟨(some 4), none, .pcall (k (.fn 51 [] [])) [(t 3)]⟩, ⟨(some 5), none, .un .not (t 4)⟩, ⟨(some 2), none, .mv (t 5)⟩])
  .ret))
theorem fn71 : Fn Go.Proofs.Try.prog 71 6 [.inl 2] c71 :=
  ⟨⟨_, _, Go.Proofs.Try.func71, rfl, by kernel_rfl, Go.Proofs.Try.ntmps71, by kernel_rfl, ⟨fun f => imp.contains f, false⟩, by kernel_rfl⟩⟩

def c76 : C :=
  (.seq (.reg [⟨(some 2), none, .alloc [(.int .i64 0), (.int .i64 0), (.str []), .nils]⟩])
  (.seq (.reg [⟨(some 3), none, .mv (t 0)⟩, ⟨(some 4), none, .build [(.int .i64 0), (.int .i64 0), (.str []), .nils] [(0, 1, (k (.int .i64 2))), (1, 1, (t 3))]⟩, ⟨none, none, .store 4 (t 2) (t 4)⟩])
  .ret))
theorem fn76 : Fn Go.Proofs.Try.prog 76 5 [.inr (2, true, 4)] c76 :=
  ⟨⟨_, _, Go.Proofs.Try.func76, rfl, by kernel_rfl, Go.Proofs.Try.ntmps76, by kernel_rfl, ⟨fun f => imp.contains f, false⟩, by kernel_rfl⟩⟩

def c89 : C :=
  (.seq (.reg [⟨(some 4), none, .mv (k (.int .i64 0))⟩])
  (.seq (.seq (.reg [⟨(some 6), none, .mv (t 0)⟩, ⟨(some 7), none, .len (t 6)⟩, ⟨(some 8), none, .mv (k (.int .i64 0))⟩])
  (.block 0
  (.loop
  (.seq (.reg [⟨(some 9), none, .bin .lss (t 8) (t 7)⟩])
  (.seq (.cond (t 9)
  .skip
  (.exit 0))
  (.seq (.block 1
  (.seq (.reg [⟨(some 10), none, .mv (t 8)⟩, ⟨(some 5), none, .mv (t 10)⟩])
  (.seq (.reg [⟨(some 11), none, .mv (t 1)⟩, ⟨(some 12), none, .mv (t 0)⟩, ⟨(some 13), none, .mv (t 5)⟩, ⟨(some 14), none, .iaddr 6 (t 12) (t 13)⟩, ⟨(some 15), none, .load true 6 (t 14)⟩, ⟨(some 16), none, .pcall (t 11) [(t 15)]⟩])
  (.cond (t 16)
  (.seq (.reg [⟨(some 17), none, .mv (t 5)⟩, ⟨(some 4), none, .mv (t 17)⟩])
  .ret)
  .skip))))
  (.reg [⟨(some 18), none, .bin .add (t 8) (k (.int .i64 1))⟩, ⟨(some 8), none, .mv (t 18)⟩])))))))
  (.seq (.reg [⟨(some 4), none, .mv (k (.int .i64 (-1)))⟩])
  .ret)))
theorem fn89 : Fn Go.Proofs.Try.prog 89 19 [.inl 4] c89 :=
  ⟨⟨_, _, Go.Proofs.Try.func89, rfl, by kernel_rfl, Go.Proofs.Try.ntmps89, by kernel_rfl, ⟨fun f => imp.contains f, false⟩, by kernel_rfl⟩⟩

def c93 : C :=
  (.seq (.reg [⟨(some 4), none, .mv (k (.int .i64 0))⟩, ⟨(some 5), none, .mv (k (.bool false))⟩])
  (.seq (.reg [⟨(some 7), none, .mv (t 0)⟩, ⟨(some 8), none, .mv (t 1)⟩, ⟨(some 9), none, .bin .sub (t 7) (t 8)⟩, ⟨(some 6), none, .mv (t 9)⟩])
  (.seq (.reg [⟨(some 10), none, .mv (t 6)⟩, ⟨(some 11), none, .mv (t 0)⟩, ⟨(some 12), none, .bin .lss (t 11) (k (.int .i64 0))⟩, ⟨(some 13), none, .mv (t 1)⟩, ⟨(some 14), none, .bin .lss (t 13) (k (.int .i64 0))⟩, ⟨(some 15), none, .eq1 .bool false (t 12) (t 14)⟩, ⟨(some 16), none, .mv (t 15)⟩, ⟨(some 17), (some (16, false)), .mv (t 6)⟩, ⟨(some 18), (some (16, false)), .bin .lss (t 17) (k (.int .i64 0))⟩, ⟨(some 19), (some (16, false)), .mv (t 0)⟩, ⟨(some 20), (some (16, false)), .bin .lss (t 19) (k (.int .i64 0))⟩, ⟨(some 21), (some (16, false)), .eq1 .bool false (t 18) (t 20)⟩, ⟨(some 22), none, .pick (t 16) (k (.bool true)) (t 21)⟩, ⟨(some 4), none, .mv (t 10)⟩, ⟨(some 5), none, .mv (t 22)⟩])
  .ret)))
theorem fn93 : Fn Go.Proofs.Try.prog 93 23 [.inl 4, .inl 5] c93 :=
  ⟨⟨_, _, Go.Proofs.Try.func93, rfl, by kernel_rfl, Go.Proofs.Try.ntmps93, by kernel_rfl, ⟨fun f => imp.contains f, false⟩, by kernel_rfl⟩⟩

end GP
namespace GP
open Go Go.Proofs
open Rd O
set_option maxRecDepth 100000
def c99 : C :=
  (.seq (.reg [⟨(some 2), none, .mv (k (.bool false))⟩])
  (.seq (.reg [⟨(some 3), none, .mv (t 0)⟩, ⟨(some 4), none, .mv (t 0)⟩, ⟨(some 5), none, .bin .neq (t 3) (t 4)⟩, ⟨(some 2), none, .mv (t 5)⟩])
  .ret))
theorem fn99 : Fn Go.Proofs.Try.prog 99 6 [.inl 2] c99 :=
  ⟨⟨_, _, Go.Proofs.Try.func99, rfl, by kernel_rfl, Go.Proofs.Try.ntmps99, by kernel_rfl, ⟨fun f => imp.contains f, false⟩, by kernel_rfl⟩⟩

def c100 : C :=
  (.seq (.reg [⟨(some 2), none, .mv (k (.bool false))⟩])
  (.seq (.reg [⟨(some 3), none, .mv (t 0)⟩, ⟨(some 4), none, .mv (t 0)⟩, ⟨(some 5), none, .bin .neq (t 3) (t 4)⟩, ⟨(some 2), none, .mv (t 5)⟩])
  .ret))
theorem fn100 : Fn Go.Proofs.Try.prog 100 6 [.inl 2] c100 :=
  ⟨⟨_, _, Go.Proofs.Try.func100, rfl, by kernel_rfl, Go.Proofs.Try.ntmps100, by kernel_rfl, ⟨fun f => imp.contains f, false⟩, by kernel_rfl⟩⟩

def c101 : C :=
  (.seq (.reg [⟨(some 4), none, .mv (k (.int .i64 0))⟩])
  (.seq (.reg [⟨(some 5), none, .mv (t 0)⟩, ⟨(some 6), none, .mv (t 1)⟩, ⟨(some 7), none, .pcall (k (.fn 105 [] [])) [(t 5), (t 6)]⟩, ⟨(some 4), none, .mv (t 7)⟩])
  .ret))
theorem fn101 : Fn Go.Proofs.Try.prog 101 8 [.inl 4] c101 :=
  ⟨⟨_, _, Go.Proofs.Try.func101, rfl, by kernel_rfl, Go.Proofs.Try.ntmps101, by kernel_rfl, ⟨fun f => imp.contains f, false⟩, by kernel_rfl⟩⟩

end GP
