import Derived.Test.YtnipbngimicldaaDoorGpYe
import Derived.Test.YtnipbngimicldaaDoorGpdi
import Derived.Test.YtnipbngimicldaaDoorProg
namespace GP
open Go Go.Proofs
open Rd O
set_option maxRecDepth 100000
def c4 : C :=
  (.seq (.reg [⟨(some 2), none, .mv (k (.bool false))⟩])
  (.seq (.seq (.reg [⟨(some 9), none, .pcall (k (.fn 8 [] [])) []⟩, ⟨(some 10), none, .un .not (t 9)⟩])
  (.cond (t 10)
  (.seq (.reg [⟨(some 2), none, .mv (k (.bool false))⟩])
  .ret)
  .skip))
  (.seq (.reg [⟨(some 11), none, .mv (t 0)⟩, ⟨(some 12), none, .bin .rem (t 11) (k (.int .u16 700))⟩, ⟨(some 13), none, .conv .i64 (t 12)⟩, ⟨(some 3), none, .mv (t 13)⟩])
  (.seq (.reg [⟨(some 14), none, .mv (t 3)⟩, ⟨(some 15), none, .bin .mul (k (.int .i64 2)) (t 14)⟩, ⟨(some 16), none, .mkm false 1 1 [(.int .u8 0)] (k (.int .i64 0)) (t 15)⟩, ⟨(some 4), none, .mv (t 16)⟩])
  (.seq (.seq (.reg [⟨(some 5), none, .mv (k (.int .i64 0))⟩])
  (.block 0
  (.loop
  (.seq (.seq (.reg [⟨(some 17), none, .mv (t 5)⟩, ⟨(some 18), none, .mv (t 3)⟩, ⟨(some 19), none, .bin .lss (t 17) (t 18)⟩])
  (.cond (t 19)
  .skip
  (.exit 0)))
  (.seq (.block 1
  (.reg [⟨(some 22), none, .mv (t 4)⟩, ⟨(some 23), none, .bslm false 1 [(k (.int .u8 55)), (k (.int .u8 32))]⟩, ⟨(some 24), none, .appm false false 1 1 (t 22) (t 23)⟩, ⟨(some 4), none, .mv (t 24)⟩]))
  (.reg [⟨(some 20), none, .mv (t 5)⟩, ⟨(some 21), none, .bin .add (t 20) (k (.int .i64 1))⟩, ⟨(some 5), none, .mv (t 21)⟩]))))))
  (.seq (.reg [⟨(some 26), none, .mv (t 4)⟩, ⟨(some 27), none, .b2m (t 26)⟩, ⟨(some 28), none, .pcall (k (.fn 12 [] [])) [(t 27)]⟩, ⟨(some 25), none, .mv (t 28)⟩, ⟨(some 29), none, .ext 0 (t 25)⟩, ⟨(some 30), none, .ext 1 (t 25)⟩, ⟨(some 31), none, .ext 2 (t 25)⟩, ⟨(some 6), none, .mv (t 29)⟩, ⟨(some 7), none, .mv (t 30)⟩, ⟨(some 8), none, .mv (t 31)⟩])
  (.seq (.seq (.reg [⟨(some 32), none, .mv (t 3)⟩, ⟨(some 33), none, .bin .leq (t 32) (k (.int .i64 600))⟩])
  (.cond (t 33)
  (.seq (.reg [⟨(some 34), none, .mv (t 8)⟩, ⟨(some 35), none, .bin .eql (t 34) (k (.int .i64 0))⟩, ⟨(some 36), none, .mv (t 35)⟩, ⟨(some 37), (some (36, true)), .mv (t 6)⟩, ⟨(some 38), (some (36, true)), .len (t 37)⟩, ⟨(some 39), (some (36, true)), .mv (t 3)⟩, ⟨(some 40), (some (36, true)), .bin .eql (t 38) (t 39)⟩, ⟨(some 41), none, .pick (t 36) (t 40) (k (.bool false))⟩, ⟨(some 42), none, .mv (t 41)⟩, ⟨(some 43), (some (42, true)), .mv (t 7)⟩, ⟨(some 44), (some (42, true)), .bin .eql (t 43) (k (.int .i64 0))⟩, ⟨(some 45), none, .pick (t 42) (t 44) (k (.bool false))⟩, ⟨(some 2), none, .mv (t 45)⟩])
  .ret)
  .skip))
  (.seq (.reg [⟨(some 46), none, .mv (t 8)⟩, ⟨(some 47), none, .bin .eql (t 46) (k (.int .i64 13))⟩, ⟨(some 48), none, .mv (t 47)⟩, ⟨(some 49), (some (48, true)), .mv (t 6)⟩, ⟨(some 50), (some (48, true)), .len (t 49)⟩, ⟨(some 51), (some (48, true)), .bin .eql (t 50) (k (.int .i64 0))⟩, ⟨(some 52), none, .pick (t 48) (t 51) (k (.bool false))⟩, ⟨(some 53), none, .mv (t 52)⟩, ⟨(some 54), (some (53, true)), .mv (t 7)⟩, ⟨(some 55), (some (53, true)), .bin .eql (t 54) (k (.int .i64 1200))⟩, ⟨(some 56), none, .pick (t 53) (t 55) (k (.bool false))⟩, ⟨(some 2), none, .mv (t 56)⟩])
  .ret))))))))
theorem fn4 : Fn Go.Proofs.Tryd.prog 4 57 [.inl 2] c4 :=
  ⟨⟨_, _, Go.Proofs.Tryd.func4, rfl, by kernel_rfl, Go.Proofs.Tryd.ntmps4, by kernel_rfl, ⟨fun f => imp.contains f, true⟩, by kernel_rfl⟩⟩

def c7 : C :=
  (.seq (.reg [⟨(some 2), none, .mv (k (.bool false))⟩])
  (.seq (.seq (.reg [⟨(some 9), none, .pcall (k (.fn 8 [] [])) []⟩, ⟨(some 10), none, .un .not (t 9)⟩, ⟨(some 11), none, .mv (t 10)⟩, ⟨(some 12), (some (11, false)), .mv (t 0)⟩, ⟨(some 13), (some (11, false)), .pcall (k (.fn 9 [] [])) [(t 12), (k (.int .i64 60))]⟩, ⟨(some 14), (some (11, false)), .un .not (t 13)⟩, ⟨(some 15), none, .pick (t 11) (k (.bool true)) (t 14)⟩])
  (.cond (t 15)
  (.seq (.reg [⟨(some 16), none, .pcall (k (.fn 8 [] [])) []⟩, ⟨(some 2), none, .mv (t 16)⟩])
  .ret)
  .skip))
  (.seq (.reg [⟨(some 3), none, .mv (k (.str []))⟩])
  (.seq (.seq (.reg [⟨(some 4), none, .mv (k (.int .i64 0))⟩])
  (.block 0
  (.loop
  (.seq (.seq (.reg [⟨(some 17), none, .mv (t 4)⟩, ⟨(some 18), none, .mv (t 0)⟩, ⟨(some 19), none, .len (t 18)⟩, ⟨(some 20), none, .bin .lss (t 17) (t 19)⟩])
  (.cond (t 20)
  .skip
  (.exit 0)))
  (.seq (.block 1
  (.seq (.seq (.reg [⟨(some 23), none, .mv (t 0)⟩, ⟨(some 24), none, .mv (t 4)⟩, ⟨(some 25), none, .iaddr 3 (t 23) (t 24)⟩, ⟨(some 26), none, .load true 3 (t 25)⟩, ⟨(some 27), none, .pcall (k (.fn 10 [] [])) [(t 26)]⟩, ⟨(some 28), none, .un .not (t 27)⟩])
  (.cond (t 28)
  (.seq (.reg [⟨(some 2), none, .mv (k (.bool true))⟩])
  .ret)
  .skip))
  (.seq (.seq (.reg [⟨(some 29), none, .mv (t 4)⟩, ⟨(some 30), none, .bin .gtr (t 29) (k (.int .i64 0))⟩])
  (.cond (t 30)
  (.reg [⟨(some 31), none, .mv (t 3)⟩, ⟨(some 32), none, .bin .add (t 31) (k (.str [32]))⟩, ⟨(some 3), none, .mv (t 32)⟩])
  .skip))
  (.reg [⟨(some 33), none, .mv (t 3)⟩, ⟨(some 34), none, .mv (t 0)⟩, ⟨(some 35), none, .mv (t 4)⟩, ⟨(some 36), none, .iaddr 3 (t 34) (t 35)⟩, ⟨(some 37), none, .load true 3 (t 36)⟩, ⟨(some 38), none, .pcall (k (.fn 11 [] [])) [(t 37)]⟩, ⟨(some 39), none, .bin .add (t 33) (t 38)⟩, ⟨(some 3), none, .mv (t 39)⟩]))))
  (.reg [⟨(some 21), none, .mv (t 4)⟩, ⟨(some 22), none, .bin .add (t 21) (k (.int .i64 1))⟩, ⟨(some 4), none, .mv (t 22)⟩]))))))
  (.seq (.reg [⟨(some 40), none, .mv (t 0)⟩, ⟨(some 41), none, .pcall (k (.fn 17 [] [])) [(t 40)]⟩, ⟨(some 5), none, .mv (t 41)⟩])
  (.seq (.reg [⟨(some 43), none, .mv (t 5)⟩, ⟨(some 44), none, .pcall (k (.fn 12 [] [])) [(t 43)]⟩, ⟨(some 42), none, .mv (t 44)⟩, ⟨(some 45), none, .ext 0 (t 42)⟩, ⟨(some 46), none, .ext 1 (t 42)⟩, ⟨(some 47), none, .ext 2 (t 42)⟩, ⟨(some 6), none, .mv (t 45)⟩, ⟨(some 7), none, .mv (t 46)⟩, ⟨(some 8), none, .mv (t 47)⟩])
  (.seq (.seq (.reg [⟨(some 48), none, .mv (t 5)⟩, ⟨(some 49), none, .mv (t 3)⟩, ⟨(some 50), none, .bin .neq (t 48) (t 49)⟩])
  (.cond (t 50)
  (.seq (.reg [⟨(some 2), none, .mv (k (.bool false))⟩])
  .ret)
  .skip))
  (.seq (.reg [⟨(some 51), none, .mv (t 5)⟩, ⟨(some 52), none, .lens (t 51)⟩, ⟨(some 53), none, .bin .gtr (t 52) (k (.int .i64 4096))⟩, ⟨(some 54), none, .mv (t 53)⟩, ⟨(some 55), (some (54, true)), .mv (t 8)⟩, ⟨(some 56), (some (54, true)), .bin .eql (t 55) (k (.int .i64 3))⟩, ⟨(some 57), none, .pick (t 54) (t 56) (k (.bool false))⟩, ⟨(some 58), none, .mv (t 57)⟩, ⟨(some 59), (some (58, false)), .mv (t 8)⟩, ⟨(some 60), (some (58, false)), .bin .eql (t 59) (k (.int .i64 0))⟩, ⟨(some 61), (some (58, false)), .mv (t 60)⟩, ⟨(some 62), (some (61, true)), .mv (t 6)⟩, ⟨(some 63), (some (61, true)), .mv (t 0)⟩, ⟨(some 64), (some (61, true)), .pcall (k (.fn 13 [] [])) [(t 62), (t 63)]⟩, ⟨(some 65), (some (58, false)), .pick (t 61) (t 64) (k (.bool false))⟩, ⟨(some 66), none, .pick (t 58) (k (.bool true)) (t 65)⟩, ⟨(some 2), none, .mv (t 66)⟩])
  .ret))))))))
theorem fn7 : Fn Go.Proofs.Tryd.prog 7 67 [.inl 2] c7 :=
  ⟨⟨_, _, Go.Proofs.Tryd.func7, rfl, by kernel_rfl, Go.Proofs.Tryd.ntmps7, by kernel_rfl, ⟨fun f => imp.contains f, false⟩, by kernel_rfl⟩⟩

def c20 : C :=
  (.seq (.reg [⟨(some 2), none, .mv (k (.str []))⟩])
  (.seq (.reg [⟨(some 3), none, .mv (k (.str []))⟩])
  (.seq (.block 0
  (.loop
  (.seq (.seq (.reg [⟨(some 4), none, .mv (t 0)⟩, ⟨(some 5), none, .bin .gtr (t 4) (k (.int .i64 9))⟩])
  (.cond (t 5)
  .skip
  (.exit 0)))
  (.block 1
  (.seq (.reg [⟨(some 6), none, .mv (t 0)⟩, ⟨(some 7), none, .bin .rem (t 6) (k (.int .i64 10))⟩, ⟨(some 8), none, .bin .add (k (.int .i64 48)) (t 7)⟩, ⟨(some 9), none, .conv .u8 (t 8)⟩, ⟨(some 10), none, .bsl 1 [(t 9)]⟩, ⟨(some 11), none, .b2s (t 10)⟩, ⟨(some 12), none, .mv (t 3)⟩, ⟨(some 13), none, .bin .add (t 11) (t 12)⟩, ⟨(some 3), none, .mv (t 13)⟩])
  (.reg [⟨(some 14), none, .mv (t 0)⟩, ⟨(some 15), none, .bin .quo (t 14) (k (.int .i64 10))⟩, ⟨(some 0), none, .mv (t 15)⟩]))))))
  (.seq (.reg [⟨(some 16), none, .mv (t 0)⟩, ⟨(some 17), none, .bin .add (k (.int .i64 48)) (t 16)⟩, ⟨(some 18), none, .conv .u8 (t 17)⟩, ⟨(some 19), none, .bsl 1 [(t 18)]⟩, ⟨(some 20), none, .b2s (t 19)⟩, ⟨(some 21), none, .mv (t 3)⟩, ⟨(some 22), none, .bin .add (t 20) (t 21)⟩, ⟨(some 2), none, .mv (t 22)⟩])
  .ret))))
theorem fn20 : Fn Go.Proofs.Tryd.prog 20 23 [.inl 2] c20 :=
  ⟨⟨_, _, Go.Proofs.Tryd.func20, rfl, by kernel_rfl, Go.Proofs.Tryd.ntmps20, by kernel_rfl, ⟨fun f => imp.contains f, false⟩, by kernel_rfl⟩⟩

def c21 : C :=
  (.seq (.reg [⟨(some 4), none, .mv (k (.int .i64 0))⟩])
  (.seq (.block 0
  (.loop
  (.seq (.seq (.reg [⟨(some 5), none, .mv (t 1)⟩, ⟨(some 6), none, .mv (t 0)⟩, ⟨(some 7), none, .lens (t 6)⟩, ⟨(some 8), none, .bin .lss (t 5) (t 7)⟩])
  (.cond (t 8)
  .skip
  (.exit 0)))
  (.block 1
  (.seq (.reg [⟨(some 9), none, .mv (t 0)⟩, ⟨(some 10), none, .mv (t 1)⟩, ⟨(some 11), none, .idxs (t 9) (t 10)⟩])
  (.block 2
  (.seq (.seq (.reg [⟨(some 14), none, .bin .eql (t 11) (k (.int .u8 32))⟩, ⟨(some 13), none, .mv (t 14)⟩])
  (.cond (t 13)
  .skip
  (.reg [⟨(some 15), none, .bin .eql (t 11) (k (.int .u8 10))⟩, ⟨(some 13), none, .mv (t 15)⟩])))
  (.cond (t 13)
  (.reg [⟨(some 16), none, .mv (t 1)⟩, ⟨(some 17), none, .bin .add (t 16) (k (.int .i64 1))⟩, ⟨(some 1), none, .mv (t 17)⟩])
  (.seq (.reg [⟨(some 19), none, .bin .eql (t 11) (k (.int .u8 35))⟩, ⟨(some 18), none, .mv (t 19)⟩])
  (.cond (t 18)
  (.reg [⟨(some 20), none, .mv (t 1)⟩, ⟨(some 21), none, .mv (t 0)⟩, ⟨(some 22), none, .mv (t 1)⟩, ⟨(some 23), none, .pcall (k (.fn 25 [] [])) [(t 21), (t 22), (k (.fn 38 [] []))]⟩, ⟨(some 24), none, .bin .add (t 20) (t 23)⟩, ⟨(some 1), none, .mv (t 24)⟩])
  (.seq (.reg [⟨(some 12), none, .mv (t 1)⟩, ⟨(some 4), none, .mv (t 12)⟩])
  .ret)))))))))))
  (.seq (.reg [⟨(some 25), none, .mv (t 1)⟩, ⟨(some 4), none, .mv (t 25)⟩])
  .ret)))
theorem fn21 : Fn Go.Proofs.Tryd.prog 21 26 [.inl 4] c21 :=
  ⟨⟨_, _, Go.Proofs.Tryd.func21, rfl, by kernel_rfl, Go.Proofs.Tryd.ntmps21, by kernel_rfl, ⟨fun f => imp.contains f, false⟩, by kernel_rfl⟩⟩

def c25 : C :=
  (.seq (.reg [⟨(some 6), none, .mv (k (.int .i64 0))⟩])
  (.seq (.reg [⟨(some 8), none, .mv (t 1)⟩, ⟨(some 7), none, .mv (t 8)⟩])
  (.seq (.block 0
  (.loop
  (.seq (.seq (.reg [⟨(some 9), none, .mv (t 7)⟩, ⟨(some 10), none, .mv (t 0)⟩, ⟨(some 11), none, .lens (t 10)⟩, ⟨(some 12), none, .bin .lss (t 9) (t 11)⟩, ⟨(some 13), none, .mv (t 12)⟩, ⟨(some 14), (some (13, true)), .mv (t 2)⟩, ⟨(some 15), (some (13, true)), .mv (t 0)⟩, ⟨(some 16), (some (13, true)), .mv (t 7)⟩, ⟨(some 17), (some (13, true)), .idxs (t 15) (t 16)⟩, ⟨(some 18), (some (13, true)), .pcall (t 14) [(t 17)]⟩, ⟨(some 19), none, .pick (t 13) (t 18) (k (.bool false))⟩])
  (.cond (t 19)
  .skip
  (.exit 0)))
  (.block 1
  (.reg [⟨(some 20), none, .mv (t 7)⟩, ⟨(some 21), none, .bin .add (t 20) (k (.int .i64 1))⟩, ⟨(some 7), none, .mv (t 21)⟩])))))
  (.seq (.reg [⟨(some 22), none, .mv (t 7)⟩, ⟨(some 23), none, .mv (t 1)⟩, ⟨(some 24), none, .bin .sub (t 22) (t 23)⟩, ⟨(some 6), none, .mv (t 24)⟩])
  .ret))))
theorem fn25 : Fn Go.Proofs.Tryd.prog 25 25 [.inl 6] c25 :=
  ⟨⟨_, _, Go.Proofs.Tryd.func25, rfl, by kernel_rfl, Go.Proofs.Tryd.ntmps25, by kernel_rfl, ⟨fun f => imp.contains f, false⟩, by kernel_rfl⟩⟩

def c30 : C :=
  (.seq (.reg [⟨(some 4), none, .mv (k (.bool false))⟩])
  (.seq (.reg [⟨(some 5), none, .mv (t 0)⟩, ⟨(some 6), none, .mv (t 1)⟩, ⟨(some 7), none, .pcall (k (.fn 45 [] [])) [(t 5), (t 6)]⟩, ⟨(some 8), none, .bin .geq (t 7) (k (.int .i64 0))⟩, ⟨(some 4), none, .mv (t 8)⟩])
  .ret))
theorem fn30 : Fn Go.Proofs.Tryd.prog 30 9 [.inl 4] c30 :=
  ⟨⟨_, _, Go.Proofs.Tryd.func30, rfl, by kernel_rfl, Go.Proofs.Tryd.ntmps30, by kernel_rfl, ⟨fun f => imp.contains f, false⟩, by kernel_rfl⟩⟩

def c37 : C :=
  (.seq (.reg [⟨(some 0), none, .mv (k .nils)⟩])
  (.seq (.reg [⟨(some 1), none, .bsl 1 [(k (.str [123])), (k (.str [125])), (k (.str [40])), (k (.str [41])), (k (.str [91])), (k (.str [93])), (k (.str [59])), (k (.str [46])), (k (.str [44])), (k (.str [43])), (k (.str [45])), (k (.str [42])), (k (.str [60])), (k (.str [62])), (k (.str [61, 61])), (k (.str [33, 61])), (k (.str [60, 61])), (k (.str [62, 61]))]⟩, ⟨(some 0), none, .mv (t 1)⟩])
  .ret))
theorem fn37 : Fn Go.Proofs.Tryd.prog 37 2 [.inl 0] c37 :=
  ⟨⟨_, _, Go.Proofs.Tryd.func37, rfl, by kernel_rfl, Go.Proofs.Tryd.ntmps37, by kernel_rfl, ⟨fun f => imp.contains f, false⟩, by kernel_rfl⟩⟩

def c39 : C :=
  (.seq (.reg [⟨(some 2), none, .mv (k (.bool false))⟩])
  (.seq (.reg [⟨(some 3), none, .mv (t 0)⟩, ⟨(some 4), none, .pcall (k (.fn 27 [] [])) [(t 3)]⟩, ⟨(some 5), none, .mv (t 4)⟩, ⟨(some 6), (some (5, false)), .mv (t 0)⟩, ⟨(some 7), (some (5, false)), .pcall (k (.fn 28 [] [])) [(t 6)]⟩, ⟨(some 8), none, .pick (t 5) (k (.bool true)) (t 7)⟩, ⟨(some 2), none, .mv (t 8)⟩])
  .ret))
theorem fn39 : Fn Go.Proofs.Tryd.prog 39 9 [.inl 2] c39 :=
  ⟨⟨_, _, Go.Proofs.Tryd.func39, rfl, by kernel_rfl, Go.Proofs.Tryd.ntmps39, by kernel_rfl, ⟨fun f => imp.contains f, false⟩, by kernel_rfl⟩⟩

def c40 : C :=
  (.seq (.reg [⟨(some 6), none, .mv (k (.int .i64 0))⟩, ⟨(some 7), none, .mv (k (.int .i64 0))⟩])
  (.seq (.reg [⟨(some 11), none, .mv (t 0)⟩, ⟨(some 12), none, .mv (t 1)⟩, ⟨(some 13), none, .pcall (k (.fn 25 [] [])) [(t 11), (t 12), (k (.fn 28 [] []))]⟩, ⟨(some 8), none, .mv (t 13)⟩])
  (.seq (.seq (.reg [⟨(some 14), none, .mv (t 8)⟩, ⟨(some 15), none, .bin .lss (t 14) (k (.int .i64 1))⟩, ⟨(some 16), none, .mv (t 15)⟩, ⟨(some 17), (some (16, false)), .mv (t 8)⟩, ⟨(some 18), (some (16, false)), .bin .gtr (t 17) (k (.int .i64 19))⟩, ⟨(some 19), none, .pick (t 16) (k (.bool true)) (t 18)⟩, ⟨(some 20), none, .mv (t 19)⟩, ⟨(some 21), (some (20, false)), .mv (t 1)⟩, ⟨(some 22), (some (20, false)), .mv (t 8)⟩, ⟨(some 23), (some (20, false)), .bin .add (t 21) (t 22)⟩, ⟨(some 24), (some (20, false)), .mv (t 0)⟩, ⟨(some 25), (some (20, false)), .lens (t 24)⟩, ⟨(some 26), (some (20, false)), .bin .lss (t 23) (t 25)⟩, ⟨(some 27), (some (20, false)), .mv (t 26)⟩, ⟨(some 28), (some (27, true)), .mv (t 0)⟩, ⟨(some 29), (some (27, true)), .mv (t 1)⟩, ⟨(some 30), (some (27, true)), .mv (t 8)⟩, ⟨(some 31), (some (27, true)), .bin .add (t 29) (t 30)⟩, ⟨(some 32), (some (27, true)), .idxs (t 28) (t 31)⟩, ⟨(some 33), (some (27, true)), .pcall (k (.fn 27 [] [])) [(t 32)]⟩, ⟨(some 34), (some (20, false)), .pick (t 27) (t 33) (k (.bool false))⟩, ⟨(some 35), none, .pick (t 20) (k (.bool true)) (t 34)⟩])
  (.cond (t 35)
  (.seq (.reg [⟨(some 6), none, .mv (k (.int .i64 0))⟩, ⟨(some 7), none, .mv (k (.int .i64 0))⟩])
  .ret)
  .skip))
  (.seq (.reg [⟨(some 37), none, .mv (t 0)⟩, ⟨(some 38), none, .mv (t 1)⟩, ⟨(some 39), none, .mv (t 1)⟩, ⟨(some 40), none, .mv (t 8)⟩, ⟨(some 41), none, .bin .add (t 39) (t 40)⟩, ⟨(some 42), none, .subs (t 37) (some (t 38)) (some (t 41))⟩, ⟨(some 43), none, .pcall (k (.fn 50 [] [])) [(t 42), (k (.int .i64 10)), (k (.int .i64 64))]⟩, ⟨(some 36), none, .mv (t 43)⟩, ⟨(some 44), none, .ext 0 (t 36)⟩, ⟨(some 45), none, .ext 1 (t 36)⟩, ⟨(some 9), none, .mv (t 44)⟩, ⟨(some 10), none, .mv (t 45)⟩])
  (.seq (.seq (.reg [⟨(some 46), none, .mv (t 10)⟩, ⟨(some 47), none, .eq1 .ifc true (t 46) (k .nili)⟩, ⟨(some 48), none, .mv (t 47)⟩, ⟨(some 49), (some (48, false)), .mv (t 9)⟩, ⟨(some 50), (some (48, false)), .mv (t 2)⟩, ⟨(some 51), (some (48, false)), .bin .gtr (t 49) (t 50)⟩, ⟨(some 52), none, .pick (t 48) (k (.bool true)) (t 51)⟩])
  (.cond (t 52)
  (.seq (.reg [⟨(some 6), none, .mv (k (.int .i64 0))⟩, ⟨(some 7), none, .mv (k (.int .i64 0))⟩])
  .ret)
  .skip))
  (.seq (.reg [⟨(some 53), none, .mv (t 9)⟩, ⟨(some 54), none, .mv (t 8)⟩, ⟨(some 6), none, .mv (t 53)⟩, ⟨(some 7), none, .mv (t 54)⟩])
  .ret))))))
theorem fn40 : Fn Go.Proofs.Tryd.prog 40 55 [.inl 6, .inl 7] c40 :=
  ⟨⟨_, _, Go.Proofs.Tryd.func40, rfl, by kernel_rfl, Go.Proofs.Tryd.ntmps40, by kernel_rfl, ⟨fun f => imp.contains f, false⟩, by kernel_rfl⟩⟩

def c42 : C :=
  (.seq (.reg [⟨(some 4), none, .mv (k (.bool false))⟩])
  (.seq (.reg [⟨(some 5), none, .mv (t 0)⟩, ⟨(some 6), none, .mv (t 1)⟩, ⟨(some 7), none, .pcall (k (.fn 51 [] [])) [(t 5), (t 6)]⟩, ⟨(some 4), none, .mv (t 7)⟩])
  .ret))
theorem fn42 : Fn Go.Proofs.Tryd.prog 42 8 [.inl 4] c42 :=
  ⟨⟨_, _, Go.Proofs.Tryd.func42, rfl, by kernel_rfl, Go.Proofs.Tryd.ntmps42, by kernel_rfl, ⟨fun f => imp.contains f, false⟩, by kernel_rfl⟩⟩

def c43 : C :=
  (.seq (.reg [⟨(some 4), none, .mv (k (.int .i64 0))⟩, ⟨(some 5), none, .mv (k (.bool false))⟩])
  (.seq (.reg [⟨(some 6), none, .mv (k (.int .u64 0))⟩])
  (.seq (.seq (.reg [⟨(some 7), none, .mv (k (.int .i64 0))⟩])
  (.block 0
  (.loop
  (.seq (.seq (.reg [⟨(some 8), none, .mv (t 7)⟩, ⟨(some 9), none, .mv (t 0)⟩, ⟨(some 10), none, .lens (t 9)⟩, ⟨(some 11), none, .bin .lss (t 8) (t 10)⟩])
  (.cond (t 11)
  .skip
  (.exit 0)))
  (.seq (.block 1
  (.seq (.seq (.reg [⟨(some 14), none, .mv (t 0)⟩, ⟨(some 15), none, .mv (t 7)⟩, ⟨(some 16), none, .idxs (t 14) (t 15)⟩, ⟨(some 17), none, .pcall (k (.fn 36 [] [])) [(t 16)]⟩, ⟨(some 18), none, .un .not (t 17)⟩, ⟨(some 19), none, .mv (t 18)⟩, ⟨(some 20), (some (19, false)), .mv (t 7)⟩, ⟨(some 21), (some (19, false)), .bin .geq (t 20) (k (.int .i64 19))⟩, ⟨(some 22), none, .pick (t 19) (k (.bool true)) (t 21)⟩])
  (.cond (t 22)
  (.seq (.reg [⟨(some 4), none, .mv (k (.int .i64 0))⟩, ⟨(some 5), none, .mv (k (.bool false))⟩])
  .ret)
  .skip))
  (.reg [⟨(some 23), none, .mv (t 6)⟩, ⟨(some 24), none, .bin .mul (t 23) (k (.int .u64 10))⟩, ⟨(some 25), none, .mv (t 0)⟩, ⟨(some 26), none, .mv (t 7)⟩, ⟨(some 27), none, .idxs (t 25) (t 26)⟩, ⟨(some 28), none, .bin .sub (t 27) (k (.int .u8 48))⟩, ⟨(some 29), none, .conv .u64 (t 28)⟩, ⟨(some 30), none, .bin .add (t 24) (t 29)⟩, ⟨(some 6), none, .mv (t 30)⟩])))
  (.reg [⟨(some 12), none, .mv (t 7)⟩, ⟨(some 13), none, .bin .add (t 12) (k (.int .i64 1))⟩, ⟨(some 7), none, .mv (t 13)⟩]))))))
  (.seq (.reg [⟨(some 31), none, .mv (t 6)⟩, ⟨(some 32), none, .conv .i64 (t 31)⟩, ⟨(some 33), none, .mv (t 0)⟩, ⟨(some 34), none, .lens (t 33)⟩, ⟨(some 35), none, .bin .gtr (t 34) (k (.int .i64 0))⟩, ⟨(some 36), none, .mv (t 35)⟩, ⟨(some 37), (some (36, true)), .mv (t 6)⟩, ⟨(some 38), (some (36, true)), .mv (t 1)⟩, ⟨(some 39), (some (36, true)), .conv .u64 (t 38)⟩, ⟨(some 40), (some (36, true)), .bin .leq (t 37) (t 39)⟩, ⟨(some 41), none, .pick (t 36) (t 40) (k (.bool false))⟩, ⟨(some 4), none, .mv (t 32)⟩, ⟨(some 5), none, .mv (t 41)⟩])
  .ret))))
theorem fn43 : Fn Go.Proofs.Tryd.prog 43 42 [.inl 4, .inl 5] c43 :=
  ⟨⟨_, _, Go.Proofs.Tryd.func43, rfl, by kernel_rfl, Go.Proofs.Tryd.ntmps43, by kernel_rfl, ⟨fun f => imp.contains f, false⟩, by kernel_rfl⟩⟩

def c51 : C :=
  (.seq (.reg [⟨(some 4), none, .mv (k (.bool false))⟩])
  (.seq (.reg [⟨(some 5), none, .mv (t 0)⟩, ⟨(some 6), none, .lens (t 5)⟩, ⟨(some 7), none, .mv (t 1)⟩, ⟨(some 8), none, .lens (t 7)⟩, ⟨(some 9), none, .bin .geq (t 6) (t 8)⟩, ⟨(some 10), none, .mv (t 9)⟩, ⟨(some 11), (some (10, true)), .mv (t 0)⟩, ⟨(some 12), (some (10, true)), .mv (t 1)⟩, ⟨(some 13), (some (10, true)), .lens (t 12)⟩, ⟨(some 14), (some (10, true)), .subs (t 11) none (some (t 13))⟩, ⟨(some 15), (some (10, true)), .mv (t 1)⟩, ⟨(some 16), (some (10, true)), .bin .eql (t 14) (t 15)⟩, ⟨(some 17), none, .pick (t 10) (t 16) (k (.bool false))⟩, ⟨(some 4), none, .mv (t 17)⟩])
  .ret))
theorem fn51 : Fn Go.Proofs.Tryd.prog 51 18 [.inl 4] c51 :=
  ⟨⟨_, _, Go.Proofs.Tryd.func51, rfl, by kernel_rfl, Go.Proofs.Tryd.ntmps51, by kernel_rfl, ⟨fun f => imp.contains f, false⟩, by kernel_rfl⟩⟩

def c52 : C :=
  (.seq (.reg [⟨(some 2), none, .mv (k (.str []))⟩])
  (.seq (.seq (.reg [⟨(some 3), none, .mv (t 0)⟩, ⟨(some 4), none, .bin .lss (t 3) (k (.int .i64 10))⟩])
  (.cond (t 4)
  (.seq (.reg [⟨(some 5), none, .mv (t 0)⟩, ⟨(some 6), none, .mv (t 0)⟩, ⟨(some 7), none, .bin .add (t 6) (k (.int .i64 1))⟩, ⟨(some 8), none, .subs (k (.str [48, 49, 50, 51, 52, 53, 54, 55, 56, 57, 97, 98, 99, 100, 101, 102, 103, 104, 105, 106, 107, 108, 109, 110, 111, 112, 113, 114, 115, 116, 117, 118, 119, 120, 121, 122])) (some (t 5)) (some (t 7))⟩, ⟨(some 2), none, .mv (t 8)⟩])
  .ret)
  .skip))
  (.seq (.reg [⟨(some 9), none, .mv (t 0)⟩, ⟨(some 10), none, .bin .mul (t 9) (k (.int .i64 2))⟩, ⟨(some 11), none, .mv (t 0)⟩, ⟨(some 12), none, .bin .mul (t 11) (k (.int .i64 2))⟩, ⟨(some 13), none, .bin .add (t 12) (k (.int .i64 2))⟩, ⟨(some 14), none, .subs (k (.str [48, 48, 48, 49, 48, 50, 48, 51, 48, 52, 48, 53, 48, 54, 48, 55, 48, 56, 48, 57, 49, 48, 49, 49, 49, 50, 49, 51, 49, 52, 49, 53, 49, 54, 49, 55, 49, 56, 49, 57, 50, 48, 50, 49, 50, 50, 50, 51, 50, 52, 50, 53, 50, 54, 50, 55, 50, 56, 50, 57, 51, 48, 51, 49, 51, 50, 51, 51, 51, 52, 51, 53, 51, 54, 51, 55, 51, 56, 51, 57, 52, 48, 52, 49, 52, 50, 52, 51, 52, 52, 52, 53, 52, 54, 52, 55, 52, 56, 52, 57, 53, 48, 53, 49, 53, 50, 53, 51, 53, 52, 53, 53, 53, 54, 53, 55, 53, 56, 53, 57, 54, 48, 54, 49, 54, 50, 54, 51, 54, 52, 54, 53, 54, 54, 54, 55, 54, 56, 54, 57, 55, 48, 55, 49, 55, 50, 55, 51, 55, 52, 55, 53, 55, 54, 55, 55, 55, 56, 55, 57, 56, 48, 56, 49, 56, 50, 56, 51, 56, 52, 56, 53, 56, 54, 56, 55, 56, 56, 56, 57, 57, 48, 57, 49, 57, 50, 57, 51, 57, 52, 57, 53, 57, 54, 57, 55, 57, 56, 57, 57])) (some (t 10)) (some (t 13))⟩, ⟨(some 2), none, .mv (t 14)⟩])
  .ret)))
theorem fn52 : Fn Go.Proofs.Tryd.prog 52 15 [.inl 2] c52 :=
  ⟨⟨_, _, Go.Proofs.Tryd.func52, rfl, by kernel_rfl, Go.Proofs.Tryd.ntmps52, by kernel_rfl, ⟨fun f => imp.contains f, false⟩, by kernel_rfl⟩⟩

def c54 : C :=
  (.seq (.reg [⟨(some 17), none, .mv (t 0)⟩, ⟨(some 18), none, .len (t 17)⟩, ⟨(some 4), none, .mv (t 18)⟩])
  (.seq (.block 0
  (.loop
  (.seq (.seq (.reg [⟨(some 19), none, .mv (t 4)⟩, ⟨(some 20), none, .bin .geq (t 19) (k (.int .i64 8))⟩])
  (.cond (t 20)
  .skip
  (.exit 0)))
  (.block 1
  (.seq (.reg [⟨(some 21), none, .mv (t 1)⟩, ⟨(some 22), none, .bin .rem (t 21) (k (.int .u64 100000000))⟩, ⟨(some 23), none, .conv .u32 (t 22)⟩, ⟨(some 5), none, .mv (t 23)⟩])
  (.seq (.reg [⟨(some 24), none, .mv (t 1)⟩, ⟨(some 25), none, .bin .quo (t 24) (k (.int .u64 100000000))⟩, ⟨(some 1), none, .mv (t 25)⟩])
  (.seq (.reg [⟨(some 26), none, .mv (t 5)⟩, ⟨(some 27), none, .bin .quo (t 26) (k (.int .u32 10000))⟩, ⟨(some 28), none, .mv (t 5)⟩, ⟨(some 29), none, .bin .rem (t 28) (k (.int .u32 10000))⟩, ⟨(some 6), none, .mv (t 27)⟩, ⟨(some 7), none, .mv (t 29)⟩])
  (.seq (.reg [⟨(some 30), none, .mv (t 7)⟩, ⟨(some 31), none, .bin .quo (t 30) (k (.int .u32 100))⟩, ⟨(some 32), none, .bin .mul (t 31) (k (.int .u32 2))⟩, ⟨(some 33), none, .mv (t 7)⟩, ⟨(some 34), none, .bin .rem (t 33) (k (.int .u32 100))⟩, ⟨(some 35), none, .bin .mul (t 34) (k (.int .u32 2))⟩, ⟨(some 8), none, .mv (t 32)⟩, ⟨(some 9), none, .mv (t 35)⟩])
  (.seq (.reg [⟨(some 36), none, .mv (t 6)⟩, ⟨(some 37), none, .bin .quo (t 36) (k (.int .u32 100))⟩, ⟨(some 38), none, .bin .mul (t 37) (k (.int .u32 2))⟩, ⟨(some 39), none, .mv (t 6)⟩, ⟨(some 40), none, .bin .rem (t 39) (k (.int .u32 100))⟩, ⟨(some 41), none, .bin .mul (t 40) (k (.int .u32 2))⟩, ⟨(some 10), none, .mv (t 38)⟩, ⟨(some 11), none, .mv (t 41)⟩])
  (.seq (.draw 0 [(⟨(some 42), none, .mv (t 0)⟩, []), (⟨(some 43), none, .mv (t 4)⟩, []), (⟨(some 44), none, .bin .sub (t 43) (k (.int .i64 1))⟩, []), (⟨(some 45), none, .mv (t 0)⟩, []), (⟨(some 46), none, .mv (t 4)⟩, []), (⟨(some 47), none, .bin .sub (t 46) (k (.int .i64 2))⟩, []), (⟨(some 48), none, .mv (t 9)⟩, []), (⟨(some 49), none, .bin .add (t 48) (k (.int .u32 1))⟩, []), (⟨(some 50), none, .idxs (k (.str [48, 48, 48, 49, 48, 50, 48, 51, 48, 52, 48, 53, 48, 54, 48, 55, 48, 56, 48, 57, 49, 48, 49, 49, 49, 50, 49, 51, 49, 52, 49, 53, 49, 54, 49, 55, 49, 56, 49, 57, 50, 48, 50, 49, 50, 50, 50, 51, 50, 52, 50, 53, 50, 54, 50, 55, 50, 56, 50, 57, 51, 48, 51, 49, 51, 50, 51, 51, 51, 52, 51, 53, 51, 54, 51, 55, 51, 56, 51, 57, 52, 48, 52, 49, 52, 50, 52, 51, 52, 52, 52, 53, 52, 54, 52, 55, 52, 56, 52, 57, 53, 48, 53, 49, 53, 50, 53, 51, 53, 52, 53, 53, 53, 54, 53, 55, 53, 56, 53, 57, 54, 48, 54, 49, 54, 50, 54, 51, 54, 52, 54, 53, 54, 54, 54, 55, 54, 56, 54, 57, 55, 48, 55, 49, 55, 50, 55, 51, 55, 52, 55, 53, 55, 54, 55, 55, 55, 56, 55, 57, 56, 48, 56, 49, 56, 50, 56, 51, 56, 52, 56, 53, 56, 54, 56, 55, 56, 56, 56, 57, 57, 48, 57, 49, 57, 50, 57, 51, 57, 52, 57, 53, 57, 54, 57, 55, 57, 56, 57, 57])) (t 49)⟩, []), (⟨(some 51), none, .mv (t 9)⟩, []), (⟨(some 52), none, .idxs (k (.str [48, 48, 48, 49, 48, 50, 48, 51, 48, 52, 48, 53, 48, 54, 48, 55, 48, 56, 48, 57, 49, 48, 49, 49, 49, 50, 49, 51, 49, 52, 49, 53, 49, 54, 49, 55, 49, 56, 49, 57, 50, 48, 50, 49, 50, 50, 50, 51, 50, 52, 50, 53, 50, 54, 50, 55, 50, 56, 50, 57, 51, 48, 51, 49, 51, 50, 51, 51, 51, 52, 51, 53, 51, 54, 51, 55, 51, 56, 51, 57, 52, 48, 52, 49, 52, 50, 52, 51, 52, 52, 52, 53, 52, 54, 52, 55, 52, 56, 52, 57, 53, 48, 53, 49, 53, 50, 53, 51, 53, 52, 53, 53, 53, 54, 53, 55, 53, 56, 53, 57, 54, 48, 54, 49, 54, 50, 54, 51, 54, 52, 54, 53, 54, 54, 54, 55, 54, 56, 54, 57, 55, 48, 55, 49, 55, 50, 55, 51, 55, 52, 55, 53, 55, 54, 55, 55, 55, 56, 55, 57, 56, 48, 56, 49, 56, 50, 56, 51, 56, 52, 56, 53, 56, 54, 56, 55, 56, 56, 56, 57, 57, 48, 57, 49, 57, 50, 57, 51, 57, 52, 57, 53, 57, 54, 57, 55, 57, 56, 57, 57])) (t 51)⟩, []), (⟨(some 53), none, .iaddr 1 (t 42) (t 44)⟩, []), (⟨none, none, .store 1 (t 53) (t 50)⟩, []), (⟨(some 54), none, .iaddr 1 (t 45) (t 47)⟩, []), (⟨none, none, .store 1 (t 54) (t 52)⟩, [])])
  (.seq (.draw 0 [(⟨(some 55), none, .mv (t 0)⟩, []), (⟨(some 56), none, .mv (t 4)⟩, []), (⟨(some 57), none, .bin .sub (t 56) (k (.int .i64 3))⟩, []), (⟨(some 58), none, .mv (t 0)⟩, []), (⟨(some 59), none, .mv (t 4)⟩, []), (⟨(some 60), none, .bin .sub (t 59) (k (.int .i64 4))⟩, []), (⟨(some 61), none, .mv (t 8)⟩, []), (⟨(some 62), none, .bin .add (t 61) (k (.int .u32 1))⟩, []), (⟨(some 63), none, .idxs (k (.str [48, 48, 48, 49, 48, 50, 48, 51, 48, 52, 48, 53, 48, 54, 48, 55, 48, 56, 48, 57, 49, 48, 49, 49, 49, 50, 49, 51, 49, 52, 49, 53, 49, 54, 49, 55, 49, 56, 49, 57, 50, 48, 50, 49, 50, 50, 50, 51, 50, 52, 50, 53, 50, 54, 50, 55, 50, 56, 50, 57, 51, 48, 51, 49, 51, 50, 51, 51, 51, 52, 51, 53, 51, 54, 51, 55, 51, 56, 51, 57, 52, 48, 52, 49, 52, 50, 52, 51, 52, 52, 52, 53, 52, 54, 52, 55, 52, 56, 52, 57, 53, 48, 53, 49, 53, 50, 53, 51, 53, 52, 53, 53, 53, 54, 53, 55, 53, 56, 53, 57, 54, 48, 54, 49, 54, 50, 54, 51, 54, 52, 54, 53, 54, 54, 54, 55, 54, 56, 54, 57, 55, 48, 55, 49, 55, 50, 55, 51, 55, 52, 55, 53, 55, 54, 55, 55, 55, 56, 55, 57, 56, 48, 56, 49, 56, 50, 56, 51, 56, 52, 56, 53, 56, 54, 56, 55, 56, 56, 56, 57, 57, 48, 57, 49, 57, 50, 57, 51, 57, 52, 57, 53, 57, 54, 57, 55, 57, 56, 57, 57])) (t 62)⟩, []), (⟨(some 64), none, .mv (t 8)⟩, []), (⟨(some 65), none, .idxs (k (.str [48, 48, 48, 49, 48, 50, 48, 51, 48, 52, 48, 53, 48, 54, 48, 55, 48, 56, 48, 57, 49, 48, 49, 49, 49, 50, 49, 51, 49, 52, 49, 53, 49, 54, 49, 55, 49, 56, 49, 57, 50, 48, 50, 49, 50, 50, 50, 51, 50, 52, 50, 53, 50, 54, 50, 55, 50, 56, 50, 57, 51, 48, 51, 49, 51, 50, 51, 51, 51, 52, 51, 53, 51, 54, 51, 55, 51, 56, 51, 57, 52, 48, 52, 49, 52, 50, 52, 51, 52, 52, 52, 53, 52, 54, 52, 55, 52, 56, 52, 57, 53, 48, 53, 49, 53, 50, 53, 51, 53, 52, 53, 53, 53, 54, 53, 55, 53, 56, 53, 57, 54, 48, 54, 49, 54, 50, 54, 51, 54, 52, 54, 53, 54, 54, 54, 55, 54, 56, 54, 57, 55, 48, 55, 49, 55, 50, 55, 51, 55, 52, 55, 53, 55, 54, 55, 55, 55, 56, 55, 57, 56, 48, 56, 49, 56, 50, 56, 51, 56, 52, 56, 53, 56, 54, 56, 55, 56, 56, 56, 57, 57, 48, 57, 49, 57, 50, 57, 51, 57, 52, 57, 53, 57, 54, 57, 55, 57, 56, 57, 57])) (t 64)⟩, []), (⟨(some 66), none, .iaddr 1 (t 55) (t 57)⟩, []), (⟨none, none, .store 1 (t 66) (t 63)⟩, []), (⟨(some 67), none, .iaddr 1 (t 58) (t 60)⟩, []), (⟨none, none, .store 1 (t 67) (t 65)⟩, [])])
  (.seq (.draw 0 [(⟨(some 68), none, .mv (t 0)⟩, []), (⟨(some 69), none, .mv (t 4)⟩, []), (⟨(some 70), none, .bin .sub (t 69) (k (.int .i64 5))⟩, []), (⟨(some 71), none, .mv (t 0)⟩, []), (⟨(some 72), none, .mv (t 4)⟩, []), (⟨(some 73), none, .bin .sub (t 72) (k (.int .i64 6))⟩, []), (⟨(some 74), none, .mv (t 11)⟩, []), (⟨(some 75), none, .bin .add (t 74) (k (.int .u32 1))⟩, []), (⟨(some 76), none, .idxs (k (.str [48, 48, 48, 49, 48, 50, 48, 51, 48, 52, 48, 53, 48, 54, 48, 55, 48, 56, 48, 57, 49, 48, 49, 49, 49, 50, 49, 51, 49, 52, 49, 53, 49, 54, 49, 55, 49, 56, 49, 57, 50, 48, 50, 49, 50, 50, 50, 51, 50, 52, 50, 53, 50, 54, 50, 55, 50, 56, 50, 57, 51, 48, 51, 49, 51, 50, 51, 51, 51, 52, 51, 53, 51, 54, 51, 55, 51, 56, 51, 57, 52, 48, 52, 49, 52, 50, 52, 51, 52, 52, 52, 53, 52, 54, 52, 55, 52, 56, 52, 57, 53, 48, 53, 49, 53, 50, 53, 51, 53, 52, 53, 53, 53, 54, 53, 55, 53, 56, 53, 57, 54, 48, 54, 49, 54, 50, 54, 51, 54, 52, 54, 53, 54, 54, 54, 55, 54, 56, 54, 57, 55, 48, 55, 49, 55, 50, 55, 51, 55, 52, 55, 53, 55, 54, 55, 55, 55, 56, 55, 57, 56, 48, 56, 49, 56, 50, 56, 51, 56, 52, 56, 53, 56, 54, 56, 55, 56, 56, 56, 57, 57, 48, 57, 49, 57, 50, 57, 51, 57, 52, 57, 53, 57, 54, 57, 55, 57, 56, 57, 57])) (t 75)⟩, []), (⟨(some 77), none, .mv (t 11)⟩, []), (⟨(some 78), none, .idxs (k (.str [48, 48, 48, 49, 48, 50, 48, 51, 48, 52, 48, 53, 48, 54, 48, 55, 48, 56, 48, 57, 49, 48, 49, 49, 49, 50, 49, 51, 49, 52, 49, 53, 49, 54, 49, 55, 49, 56, 49, 57, 50, 48, 50, 49, 50, 50, 50, 51, 50, 52, 50, 53, 50, 54, 50, 55, 50, 56, 50, 57, 51, 48, 51, 49, 51, 50, 51, 51, 51, 52, 51, 53, 51, 54, 51, 55, 51, 56, 51, 57, 52, 48, 52, 49, 52, 50, 52, 51, 52, 52, 52, 53, 52, 54, 52, 55, 52, 56, 52, 57, 53, 48, 53, 49, 53, 50, 53, 51, 53, 52, 53, 53, 53, 54, 53, 55, 53, 56, 53, 57, 54, 48, 54, 49, 54, 50, 54, 51, 54, 52, 54, 53, 54, 54, 54, 55, 54, 56, 54, 57, 55, 48, 55, 49, 55, 50, 55, 51, 55, 52, 55, 53, 55, 54, 55, 55, 55, 56, 55, 57, 56, 48, 56, 49, 56, 50, 56, 51, 56, 52, 56, 53, 56, 54, 56, 55, 56, 56, 56, 57, 57, 48, 57, 49, 57, 50, 57, 51, 57, 52, 57, 53, 57, 54, 57, 55, 57, 56, 57, 57])) (t 77)⟩, []), (⟨(some 79), none, .iaddr 1 (t 68) (t 70)⟩, []), (⟨none, none, .store 1 (t 79) (t 76)⟩, []), (⟨(some 80), none, .iaddr 1 (t 71) (t 73)⟩, []), (⟨none, none, .store 1 (t 80) (t 78)⟩, [])])
  (.seq (.draw 0 [(⟨(some 81), none, .mv (t 0)⟩, []), (⟨(some 82), none, .mv (t 4)⟩, []), (⟨(some 83), none, .bin .sub (t 82) (k (.int .i64 7))⟩, []), (⟨(some 84), none, .mv (t 0)⟩, []), (⟨(some 85), none, .mv (t 4)⟩, []), (⟨(some 86), none, .bin .sub (t 85) (k (.int .i64 8))⟩, []), (⟨(some 87), none, .mv (t 10)⟩, []), (⟨(some 88), none, .bin .add (t 87) (k (.int .u32 1))⟩, []), (⟨(some 89), none, .idxs (k (.str [48, 48, 48, 49, 48, 50, 48, 51, 48, 52, 48, 53, 48, 54, 48, 55, 48, 56, 48, 57, 49, 48, 49, 49, 49, 50, 49, 51, 49, 52, 49, 53, 49, 54, 49, 55, 49, 56, 49, 57, 50, 48, 50, 49, 50, 50, 50, 51, 50, 52, 50, 53, 50, 54, 50, 55, 50, 56, 50, 57, 51, 48, 51, 49, 51, 50, 51, 51, 51, 52, 51, 53, 51, 54, 51, 55, 51, 56, 51, 57, 52, 48, 52, 49, 52, 50, 52, 51, 52, 52, 52, 53, 52, 54, 52, 55, 52, 56, 52, 57, 53, 48, 53, 49, 53, 50, 53, 51, 53, 52, 53, 53, 53, 54, 53, 55, 53, 56, 53, 57, 54, 48, 54, 49, 54, 50, 54, 51, 54, 52, 54, 53, 54, 54, 54, 55, 54, 56, 54, 57, 55, 48, 55, 49, 55, 50, 55, 51, 55, 52, 55, 53, 55, 54, 55, 55, 55, 56, 55, 57, 56, 48, 56, 49, 56, 50, 56, 51, 56, 52, 56, 53, 56, 54, 56, 55, 56, 56, 56, 57, 57, 48, 57, 49, 57, 50, 57, 51, 57, 52, 57, 53, 57, 54, 57, 55, 57, 56, 57, 57])) (t 88)⟩, []), (⟨(some 90), none, .mv (t 10)⟩, []), (⟨(some 91), none, .idxs (k (.str [48, 48, 48, 49, 48, 50, 48, 51, 48, 52, 48, 53, 48, 54, 48, 55, 48, 56, 48, 57, 49, 48, 49, 49, 49, 50, 49, 51, 49, 52, 49, 53, 49, 54, 49, 55, 49, 56, 49, 57, 50, 48, 50, 49, 50, 50, 50, 51, 50, 52, 50, 53, 50, 54, 50, 55, 50, 56, 50, 57, 51, 48, 51, 49, 51, 50, 51, 51, 51, 52, 51, 53, 51, 54, 51, 55, 51, 56, 51, 57, 52, 48, 52, 49, 52, 50, 52, 51, 52, 52, 52, 53, 52, 54, 52, 55, 52, 56, 52, 57, 53, 48, 53, 49, 53, 50, 53, 51, 53, 52, 53, 53, 53, 54, 53, 55, 53, 56, 53, 57, 54, 48, 54, 49, 54, 50, 54, 51, 54, 52, 54, 53, 54, 54, 54, 55, 54, 56, 54, 57, 55, 48, 55, 49, 55, 50, 55, 51, 55, 52, 55, 53, 55, 54, 55, 55, 55, 56, 55, 57, 56, 48, 56, 49, 56, 50, 56, 51, 56, 52, 56, 53, 56, 54, 56, 55, 56, 56, 56, 57, 57, 48, 57, 49, 57, 50, 57, 51, 57, 52, 57, 53, 57, 54, 57, 55, 57, 56, 57, 57])) (t 90)⟩, []), (⟨(some 92), none, .iaddr 1 (t 81) (t 83)⟩, []), (⟨none, none, .store 1 (t 92) (t 89)⟩, []), (⟨(some 93), none, .iaddr 1 (t 84) (t 86)⟩, []), (⟨none, none, .store 1 (t 93) (t 91)⟩, [])])
  (.reg [⟨(some 94), none, .mv (t 4)⟩, ⟨(some 95), none, .bin .sub (t 94) (k (.int .i64 8))⟩, ⟨(some 4), none, .mv (t 95)⟩]))))))))))))))
  (.seq (.reg [⟨(some 96), none, .mv (t 1)⟩, ⟨(some 97), none, .conv .u32 (t 96)⟩, ⟨(some 12), none, .mv (t 97)⟩])
  (.seq (.seq (.reg [⟨(some 98), none, .mv (t 4)⟩, ⟨(some 99), none, .bin .geq (t 98) (k (.int .i64 4))⟩])
  (.cond (t 99)
  (.seq (.reg [⟨(some 100), none, .mv (t 12)⟩, ⟨(some 101), none, .bin .rem (t 100) (k (.int .u32 10000))⟩, ⟨(some 13), none, .mv (t 101)⟩])
  (.seq (.reg [⟨(some 102), none, .mv (t 12)⟩, ⟨(some 103), none, .bin .quo (t 102) (k (.int .u32 10000))⟩, ⟨(some 12), none, .mv (t 103)⟩])
  (.seq (.reg [⟨(some 104), none, .mv (t 13)⟩, ⟨(some 105), none, .bin .quo (t 104) (k (.int .u32 100))⟩, ⟨(some 106), none, .bin .mul (t 105) (k (.int .u32 2))⟩, ⟨(some 107), none, .mv (t 13)⟩, ⟨(some 108), none, .bin .rem (t 107) (k (.int .u32 100))⟩, ⟨(some 109), none, .bin .mul (t 108) (k (.int .u32 2))⟩, ⟨(some 14), none, .mv (t 106)⟩, ⟨(some 15), none, .mv (t 109)⟩])
  (.seq (.draw 0 [(⟨(some 110), none, .mv (t 0)⟩, []), (⟨(some 111), none, .mv (t 4)⟩, []), (⟨(some 112), none, .bin .sub (t 111) (k (.int .i64 1))⟩, []), (⟨(some 113), none, .mv (t 0)⟩, []), (⟨(some 114), none, .mv (t 4)⟩, []), (⟨(some 115), none, .bin .sub (t 114) (k (.int .i64 2))⟩, []), (⟨(some 116), none, .mv (t 15)⟩, []), (⟨(some 117), none, .bin .add (t 116) (k (.int .u32 1))⟩, []), (⟨(some 118), none, .idxs (k (.str [48, 48, 48, 49, 48, 50, 48, 51, 48, 52, 48, 53, 48, 54, 48, 55, 48, 56, 48, 57, 49, 48, 49, 49, 49, 50, 49, 51, 49, 52, 49, 53, 49, 54, 49, 55, 49, 56, 49, 57, 50, 48, 50, 49, 50, 50, 50, 51, 50, 52, 50, 53, 50, 54, 50, 55, 50, 56, 50, 57, 51, 48, 51, 49, 51, 50, 51, 51, 51, 52, 51, 53, 51, 54, 51, 55, 51, 56, 51, 57, 52, 48, 52, 49, 52, 50, 52, 51, 52, 52, 52, 53, 52, 54, 52, 55, 52, 56, 52, 57, 53, 48, 53, 49, 53, 50, 53, 51, 53, 52, 53, 53, 53, 54, 53, 55, 53, 56, 53, 57, 54, 48, 54, 49, 54, 50, 54, 51, 54, 52, 54, 53, 54, 54, 54, 55, 54, 56, 54, 57, 55, 48, 55, 49, 55, 50, 55, 51, 55, 52, 55, 53, 55, 54, 55, 55, 55, 56, 55, 57, 56, 48, 56, 49, 56, 50, 56, 51, 56, 52, 56, 53, 56, 54, 56, 55, 56, 56, 56, 57, 57, 48, 57, 49, 57, 50, 57, 51, 57, 52, 57, 53, 57, 54, 57, 55, 57, 56, 57, 57])) (t 117)⟩, []), (⟨(some 119), none, .mv (t 15)⟩, []), (⟨(some 120), none, .idxs (k (.str [48, 48, 48, 49, 48, 50, 48, 51, 48, 52, 48, 53, 48, 54, 48, 55, 48, 56, 48, 57, 49, 48, 49, 49, 49, 50, 49, 51, 49, 52, 49, 53, 49, 54, 49, 55, 49, 56, 49, 57, 50, 48, 50, 49, 50, 50, 50, 51, 50, 52, 50, 53, 50, 54, 50, 55, 50, 56, 50, 57, 51, 48, 51, 49, 51, 50, 51, 51, 51, 52, 51, 53, 51, 54, 51, 55, 51, 56, 51, 57, 52, 48, 52, 49, 52, 50, 52, 51, 52, 52, 52, 53, 52, 54, 52, 55, 52, 56, 52, 57, 53, 48, 53, 49, 53, 50, 53, 51, 53, 52, 53, 53, 53, 54, 53, 55, 53, 56, 53, 57, 54, 48, 54, 49, 54, 50, 54, 51, 54, 52, 54, 53, 54, 54, 54, 55, 54, 56, 54, 57, 55, 48, 55, 49, 55, 50, 55, 51, 55, 52, 55, 53, 55, 54, 55, 55, 55, 56, 55, 57, 56, 48, 56, 49, 56, 50, 56, 51, 56, 52, 56, 53, 56, 54, 56, 55, 56, 56, 56, 57, 57, 48, 57, 49, 57, 50, 57, 51, 57, 52, 57, 53, 57, 54, 57, 55, 57, 56, 57, 57])) (t 119)⟩, []), (⟨(some 121), none, .iaddr 1 (t 110) (t 112)⟩, []), (⟨none, none, .store 1 (t 121) (t 118)⟩, []), (⟨(some 122), none, .iaddr 1 (t 113) (t 115)⟩, []), (⟨none, none, .store 1 (t 122) (t 120)⟩, [])])
  (.seq (.draw 0 [(⟨(some 123), none, .mv (t 0)⟩, []), (⟨(some 124), none, .mv (t 4)⟩, []), (⟨(some 125), none, .bin .sub (t 124) (k (.int .i64 3))⟩, []), (⟨(some 126), none, .mv (t 0)⟩, []), (⟨(some 127), none, .mv (t 4)⟩, []), (⟨(some 128), none, .bin .sub (t 127) (k (.int .i64 4))⟩, []), (⟨(some 129), none, .mv (t 14)⟩, []), (⟨(some 130), none, .bin .add (t 129) (k (.int .u32 1))⟩, []), (⟨(some 131), none, .idxs (k (.str [48, 48, 48, 49, 48, 50, 48, 51, 48, 52, 48, 53, 48, 54, 48, 55, 48, 56, 48, 57, 49, 48, 49, 49, 49, 50, 49, 51, 49, 52, 49, 53, 49, 54, 49, 55, 49, 56, 49, 57, 50, 48, 50, 49, 50, 50, 50, 51, 50, 52, 50, 53, 50, 54, 50, 55, 50, 56, 50, 57, 51, 48, 51, 49, 51, 50, 51, 51, 51, 52, 51, 53, 51, 54, 51, 55, 51, 56, 51, 57, 52, 48, 52, 49, 52, 50, 52, 51, 52, 52, 52, 53, 52, 54, 52, 55, 52, 56, 52, 57, 53, 48, 53, 49, 53, 50, 53, 51, 53, 52, 53, 53, 53, 54, 53, 55, 53, 56, 53, 57, 54, 48, 54, 49, 54, 50, 54, 51, 54, 52, 54, 53, 54, 54, 54, 55, 54, 56, 54, 57, 55, 48, 55, 49, 55, 50, 55, 51, 55, 52, 55, 53, 55, 54, 55, 55, 55, 56, 55, 57, 56, 48, 56, 49, 56, 50, 56, 51, 56, 52, 56, 53, 56, 54, 56, 55, 56, 56, 56, 57, 57, 48, 57, 49, 57, 50, 57, 51, 57, 52, 57, 53, 57, 54, 57, 55, 57, 56, 57, 57])) (t 130)⟩, []), (⟨(some 132), none, .mv (t 14)⟩, []), (⟨(some 133), none, .idxs (k (.str [48, 48, 48, 49, 48, 50, 48, 51, 48, 52, 48, 53, 48, 54, 48, 55, 48, 56, 48, 57, 49, 48, 49, 49, 49, 50, 49, 51, 49, 52, 49, 53, 49, 54, 49, 55, 49, 56, 49, 57, 50, 48, 50, 49, 50, 50, 50, 51, 50, 52, 50, 53, 50, 54, 50, 55, 50, 56, 50, 57, 51, 48, 51, 49, 51, 50, 51, 51, 51, 52, 51, 53, 51, 54, 51, 55, 51, 56, 51, 57, 52, 48, 52, 49, 52, 50, 52, 51, 52, 52, 52, 53, 52, 54, 52, 55, 52, 56, 52, 57, 53, 48, 53, 49, 53, 50, 53, 51, 53, 52, 53, 53, 53, 54, 53, 55, 53, 56, 53, 57, 54, 48, 54, 49, 54, 50, 54, 51, 54, 52, 54, 53, 54, 54, 54, 55, 54, 56, 54, 57, 55, 48, 55, 49, 55, 50, 55, 51, 55, 52, 55, 53, 55, 54, 55, 55, 55, 56, 55, 57, 56, 48, 56, 49, 56, 50, 56, 51, 56, 52, 56, 53, 56, 54, 56, 55, 56, 56, 56, 57, 57, 48, 57, 49, 57, 50, 57, 51, 57, 52, 57, 53, 57, 54, 57, 55, 57, 56, 57, 57])) (t 132)⟩, []), (⟨(some 134), none, .iaddr 1 (t 123) (t 125)⟩, []), (⟨none, none, .store 1 (t 134) (t 131)⟩, []), (⟨(some 135), none, .iaddr 1 (t 126) (t 128)⟩, []), (⟨none, none, .store 1 (t 135) (t 133)⟩, [])])
  (.reg [⟨(some 136), none, .mv (t 4)⟩, ⟨(some 137), none, .bin .sub (t 136) (k (.int .i64 4))⟩, ⟨(some 4), none, .mv (t 137)⟩]))))))
  .skip))
  (.seq (.seq (.reg [⟨(some 138), none, .mv (t 4)⟩, ⟨(some 139), none, .bin .geq (t 138) (k (.int .i64 2))⟩])
  (.cond (t 139)
  (.seq (.reg [⟨(some 140), none, .mv (t 12)⟩, ⟨(some 141), none, .bin .rem (t 140) (k (.int .u32 100))⟩, ⟨(some 142), none, .bin .mul (t 141) (k (.int .u32 2))⟩, ⟨(some 16), none, .mv (t 142)⟩])
  (.seq (.reg [⟨(some 143), none, .mv (t 12)⟩, ⟨(some 144), none, .bin .quo (t 143) (k (.int .u32 100))⟩, ⟨(some 12), none, .mv (t 144)⟩])
  (.seq (.draw 0 [(⟨(some 145), none, .mv (t 0)⟩, []), (⟨(some 146), none, .mv (t 4)⟩, []), (⟨(some 147), none, .bin .sub (t 146) (k (.int .i64 1))⟩, []), (⟨(some 148), none, .mv (t 0)⟩, []), (⟨(some 149), none, .mv (t 4)⟩, []), (⟨(some 150), none, .bin .sub (t 149) (k (.int .i64 2))⟩, []), (⟨(some 151), none, .mv (t 16)⟩, []), (⟨(some 152), none, .bin .add (t 151) (k (.int .u32 1))⟩, []), (⟨(some 153), none, .idxs (k (.str [48, 48, 48, 49, 48, 50, 48, 51, 48, 52, 48, 53, 48, 54, 48, 55, 48, 56, 48, 57, 49, 48, 49, 49, 49, 50, 49, 51, 49, 52, 49, 53, 49, 54, 49, 55, 49, 56, 49, 57, 50, 48, 50, 49, 50, 50, 50, 51, 50, 52, 50, 53, 50, 54, 50, 55, 50, 56, 50, 57, 51, 48, 51, 49, 51, 50, 51, 51, 51, 52, 51, 53, 51, 54, 51, 55, 51, 56, 51, 57, 52, 48, 52, 49, 52, 50, 52, 51, 52, 52, 52, 53, 52, 54, 52, 55, 52, 56, 52, 57, 53, 48, 53, 49, 53, 50, 53, 51, 53, 52, 53, 53, 53, 54, 53, 55, 53, 56, 53, 57, 54, 48, 54, 49, 54, 50, 54, 51, 54, 52, 54, 53, 54, 54, 54, 55, 54, 56, 54, 57, 55, 48, 55, 49, 55, 50, 55, 51, 55, 52, 55, 53, 55, 54, 55, 55, 55, 56, 55, 57, 56, 48, 56, 49, 56, 50, 56, 51, 56, 52, 56, 53, 56, 54, 56, 55, 56, 56, 56, 57, 57, 48, 57, 49, 57, 50, 57, 51, 57, 52, 57, 53, 57, 54, 57, 55, 57, 56, 57, 57])) (t 152)⟩, []), (⟨(some 154), none, .mv (t 16)⟩, []), (⟨(some 155), none, .idxs (k (.str [48, 48, 48, 49, 48, 50, 48, 51, 48, 52, 48, 53, 48, 54, 48, 55, 48, 56, 48, 57, 49, 48, 49, 49, 49, 50, 49, 51, 49, 52, 49, 53, 49, 54, 49, 55, 49, 56, 49, 57, 50, 48, 50, 49, 50, 50, 50, 51, 50, 52, 50, 53, 50, 54, 50, 55, 50, 56, 50, 57, 51, 48, 51, 49, 51, 50, 51, 51, 51, 52, 51, 53, 51, 54, 51, 55, 51, 56, 51, 57, 52, 48, 52, 49, 52, 50, 52, 51, 52, 52, 52, 53, 52, 54, 52, 55, 52, 56, 52, 57, 53, 48, 53, 49, 53, 50, 53, 51, 53, 52, 53, 53, 53, 54, 53, 55, 53, 56, 53, 57, 54, 48, 54, 49, 54, 50, 54, 51, 54, 52, 54, 53, 54, 54, 54, 55, 54, 56, 54, 57, 55, 48, 55, 49, 55, 50, 55, 51, 55, 52, 55, 53, 55, 54, 55, 55, 55, 56, 55, 57, 56, 48, 56, 49, 56, 50, 56, 51, 56, 52, 56, 53, 56, 54, 56, 55, 56, 56, 56, 57, 57, 48, 57, 49, 57, 50, 57, 51, 57, 52, 57, 53, 57, 54, 57, 55, 57, 56, 57, 57])) (t 154)⟩, []), (⟨(some 156), none, .iaddr 1 (t 145) (t 147)⟩, []), (⟨none, none, .store 1 (t 156) (t 153)⟩, []), (⟨(some 157), none, .iaddr 1 (t 148) (t 150)⟩, []), (⟨none, none, .store 1 (t 157) (t 155)⟩, [])])
  (.reg [⟨(some 158), none, .mv (t 4)⟩, ⟨(some 159), none, .bin .sub (t 158) (k (.int .i64 2))⟩, ⟨(some 4), none, .mv (t 159)⟩]))))
  .skip))
  (.seq (.reg [⟨(some 160), none, .mv (t 4)⟩, ⟨(some 161), none, .bin .gtr (t 160) (k (.int .i64 0))⟩])
  (.cond (t 161)
  (.reg [⟨(some 162), none, .mv (t 0)⟩, ⟨(some 163), none, .mv (t 12)⟩, ⟨(some 164), none, .bin .add (k (.int .u32 48)) (t 163)⟩, ⟨(some 165), none, .conv .u8 (t 164)⟩, ⟨(some 166), none, .iaddr 1 (t 162) (k (.int .i64 0))⟩, ⟨none, none, .store 1 (t 166) (t 165)⟩])
  .skip)))))))
theorem fn54 : Fn Go.Proofs.Tryd.prog 54 167 [] c54 :=
  ⟨⟨_, _, Go.Proofs.Tryd.func54, rfl, by kernel_rfl, Go.Proofs.Tryd.ntmps54, by kernel_rfl, ⟨fun f => imp.contains f, false⟩, by kernel_rfl⟩⟩

end GP
namespace GP
open Go Go.Proofs
open Rd O
set_option maxRecDepth 100000
def c3 : C :=
  (.seq (.reg [⟨(some 6), none, .mv (k (.bool false))⟩])
  (.seq (.seq (.reg [⟨(some 14), none, .pcall (k (.fn 8 [] [])) []⟩, ⟨(some 15), none, .un .not (t 14)⟩, ⟨(some 16), none, .mv (t 15)⟩, ⟨(some 17), (some (16, false)), .mv (t 0)⟩, ⟨(some 18), (some (16, false)), .pcall (k (.fn 9 [] [])) [(t 17), (k (.int .i64 40))]⟩, ⟨(some 19), (some (16, false)), .un .not (t 18)⟩, ⟨(some 20), none, .pick (t 16) (k (.bool true)) (t 19)⟩, ⟨(some 21), none, .mv (t 20)⟩, ⟨(some 22), (some (21, false)), .mv (t 2)⟩, ⟨(some 23), (some (21, false)), .lens (t 22)⟩, ⟨(some 24), (some (21, false)), .bin .gtr (t 23) (k (.int .i64 20))⟩, ⟨(some 25), none, .pick (t 21) (k (.bool true)) (t 24)⟩])
  (.cond (t 25)
  (.seq (.reg [⟨(some 26), none, .pcall (k (.fn 8 [] [])) []⟩, ⟨(some 6), none, .mv (t 26)⟩])
  .ret)
  .skip))
  (.seq (.seq (.reg [⟨(some 7), none, .mv (k (.int .i64 0))⟩])
  (.block 0
  (.loop
  (.seq (.seq (.reg [⟨(some 27), none, .mv (t 7)⟩, ⟨(some 28), none, .mv (t 2)⟩, ⟨(some 29), none, .lens (t 28)⟩, ⟨(some 30), none, .bin .lss (t 27) (t 29)⟩])
  (.cond (t 30)
  .skip
  (.exit 0)))
  (.seq (.block 1
  (.seq (.reg [⟨(some 33), none, .mv (t 2)⟩, ⟨(some 34), none, .mv (t 7)⟩, ⟨(some 35), none, .idxs (t 33) (t 34)⟩, ⟨(some 36), none, .bin .eql (t 35) (k (.int .u8 10))⟩])
  (.cond (t 36)
  (.seq (.reg [⟨(some 6), none, .mv (k (.bool true))⟩])
  .ret)
  .skip)))
  (.reg [⟨(some 31), none, .mv (t 7)⟩, ⟨(some 32), none, .bin .add (t 31) (k (.int .i64 1))⟩, ⟨(some 7), none, .mv (t 32)⟩]))))))
  (.seq (.reg [⟨(some 8), none, .mv (k (.str []))⟩])
  (.seq (.seq (.reg [⟨(some 9), none, .mv (k (.int .i64 0))⟩])
  (.block 2
  (.loop
  (.seq (.seq (.reg [⟨(some 37), none, .mv (t 9)⟩, ⟨(some 38), none, .mv (t 0)⟩, ⟨(some 39), none, .len (t 38)⟩, ⟨(some 40), none, .bin .lss (t 37) (t 39)⟩])
  (.cond (t 40)
  .skip
  (.exit 2)))
  (.seq (.block 3
  (.seq (.seq (.reg [⟨(some 43), none, .mv (t 0)⟩, ⟨(some 44), none, .mv (t 9)⟩, ⟨(some 45), none, .iaddr 3 (t 43) (t 44)⟩, ⟨(some 46), none, .load true 3 (t 45)⟩, ⟨(some 47), none, .pcall (k (.fn 10 [] [])) [(t 46)]⟩, ⟨(some 48), none, .un .not (t 47)⟩])
  (.cond (t 48)
  (.seq (.reg [⟨(some 6), none, .mv (k (.bool true))⟩])
  .ret)
  .skip))
  (.seq (.reg [⟨(some 10), none, .mv (k (.int .u8 0))⟩])
  (.seq (.seq (.reg [⟨(some 49), none, .mv (t 9)⟩, ⟨(some 50), none, .mv (t 1)⟩, ⟨(some 51), none, .len (t 50)⟩, ⟨(some 52), none, .bin .lss (t 49) (t 51)⟩])
  (.cond (t 52)
  (.reg [⟨(some 53), none, .mv (t 1)⟩, ⟨(some 54), none, .mv (t 9)⟩, ⟨(some 55), none, .iaddr 1 (t 53) (t 54)⟩, ⟨(some 56), none, .load false 1 (t 55)⟩, ⟨(some 57), none, .bin .rem (t 56) (k (.int .u8 4))⟩, ⟨(some 10), none, .mv (t 57)⟩])
  .skip))
  (.draw 0 [(⟨(some 58), none, .mv (t 8)⟩, []), (⟨(some 59), none, .mv (t 2)⟩, []), (⟨(some 60), none, .bin .add (k (.str [32, 35])) (t 59)⟩, []), (⟨(some 61), none, .bin .add (t 60) (k (.str [10]))⟩, []), (⟨(some 62), none, .build [(.str []), (.str []), (.str []), (.str [])] [(0, 1, (k (.str [32]))), (1, 1, (k (.str [10]))), (2, 1, (t 61)), (3, 1, (k (.str [10, 10, 32, 32])))]⟩, []), (⟨(some 63), none, .mv (t 10)⟩, []), (⟨(some 64), none, .idxa false 1 4 (t 62) (t 63)⟩, []), (⟨(some 65), none, .mv (t 0)⟩, []), (⟨(some 66), none, .mv (t 9)⟩, []), (⟨(some 67), none, .iaddr 3 (t 65) (t 66)⟩, []), (⟨(some 68), none, .load true 3 (t 67)⟩, []), (⟨(some 69), none, .pcall (k (.fn 11 [] [])) [(t 68)]⟩, []), (⟨(some 70), none, .bin .add (t 64) (t 69)⟩, []), (⟨(some 71), none, .bin .add (t 58) (t 70)⟩, []), (⟨(some 8), none, .mv (t 71)⟩, [])])))))
  (.reg [⟨(some 41), none, .mv (t 9)⟩, ⟨(some 42), none, .bin .add (t 41) (k (.int .i64 1))⟩, ⟨(some 9), none, .mv (t 42)⟩]))))))
  (.seq (.reg [⟨(some 72), none, .mv (t 8)⟩, ⟨(some 73), none, .mv (t 2)⟩, ⟨(some 74), none, .bin .add (k (.str [32, 35])) (t 73)⟩, ⟨(some 75), none, .bin .add (t 72) (t 74)⟩, ⟨(some 8), none, .mv (t 75)⟩])
  (.seq (.reg [⟨(some 77), none, .mv (t 8)⟩, ⟨(some 78), none, .pcall (k (.fn 12 [] [])) [(t 77)]⟩, ⟨(some 76), none, .mv (t 78)⟩, ⟨(some 79), none, .ext 0 (t 76)⟩, ⟨(some 80), none, .ext 1 (t 76)⟩, ⟨(some 81), none, .ext 2 (t 76)⟩, ⟨(some 11), none, .mv (t 79)⟩, ⟨(some 12), none, .mv (t 80)⟩, ⟨(some 13), none, .mv (t 81)⟩])
  (.seq (.reg [⟨(some 82), none, .mv (t 8)⟩, ⟨(some 83), none, .lens (t 82)⟩, ⟨(some 84), none, .bin .gtr (t 83) (k (.int .i64 4096))⟩, ⟨(some 85), none, .mv (t 84)⟩, ⟨(some 86), (some (85, true)), .mv (t 13)⟩, ⟨(some 87), (some (85, true)), .bin .eql (t 86) (k (.int .i64 3))⟩, ⟨(some 88), none, .pick (t 85) (t 87) (k (.bool false))⟩, ⟨(some 89), none, .mv (t 88)⟩, ⟨(some 90), (some (89, false)), .mv (t 13)⟩, ⟨(some 91), (some (89, false)), .bin .eql (t 90) (k (.int .i64 0))⟩, ⟨(some 92), (some (89, false)), .mv (t 91)⟩, ⟨(some 93), (some (92, true)), .mv (t 11)⟩, ⟨(some 94), (some (92, true)), .mv (t 0)⟩, ⟨(some 95), (some (92, true)), .pcall (k (.fn 13 [] [])) [(t 93), (t 94)]⟩, ⟨(some 96), (some (89, false)), .pick (t 92) (t 95) (k (.bool false))⟩, ⟨(some 97), none, .pick (t 89) (k (.bool true)) (t 96)⟩, ⟨(some 6), none, .mv (t 97)⟩])
  .ret))))))))
theorem fn3 : Fn Go.Proofs.Tryd.prog 3 98 [.inl 6] c3 :=
  ⟨⟨_, _, Go.Proofs.Tryd.func3, rfl, by kernel_rfl, Go.Proofs.Tryd.ntmps3, by kernel_rfl, ⟨fun f => imp.contains f, false⟩, by kernel_rfl⟩⟩

def c5 : C :=
  (.seq (.reg [⟨(some 2), none, .mv (k (.bool false))⟩])
  (.seq (.seq (.reg [⟨(some 10), none, .pcall (k (.fn 8 [] [])) []⟩, ⟨(some 11), none, .un .not (t 10)⟩, ⟨(some 12), none, .mv (t 11)⟩, ⟨(some 13), (some (12, false)), .mv (t 0)⟩, ⟨(some 14), (some (12, false)), .lens (t 13)⟩, ⟨(some 15), (some (12, false)), .bin .gtr (t 14) (k (.int .i64 5000))⟩, ⟨(some 16), none, .pick (t 12) (k (.bool true)) (t 15)⟩])
  (.cond (t 16)
  (.seq (.reg [⟨(some 17), none, .pcall (k (.fn 8 [] [])) []⟩, ⟨(some 2), none, .mv (t 17)⟩])
  .ret)
  .skip))
  (.seq (.reg [⟨(some 19), none, .mv (t 0)⟩, ⟨(some 20), none, .pcall (k (.fn 12 [] [])) [(t 19)]⟩, ⟨(some 18), none, .mv (t 20)⟩, ⟨(some 21), none, .ext 0 (t 18)⟩, ⟨(some 22), none, .ext 1 (t 18)⟩, ⟨(some 23), none, .ext 2 (t 18)⟩, ⟨(some 3), none, .mv (t 21)⟩, ⟨(some 4), none, .mv (t 22)⟩, ⟨(some 5), none, .mv (t 23)⟩])
  (.seq (.reg [⟨(some 25), none, .mv (t 0)⟩, ⟨(some 26), none, .pcall (k (.fn 14 [] [])) [(t 25)]⟩, ⟨(some 24), none, .mv (t 26)⟩, ⟨(some 27), none, .ext 0 (t 24)⟩, ⟨(some 28), none, .ext 1 (t 24)⟩, ⟨(some 29), none, .ext 2 (t 24)⟩, ⟨(some 6), none, .mv (t 27)⟩, ⟨(some 7), none, .mv (t 28)⟩, ⟨(some 8), none, .mv (t 29)⟩])
  (.seq (.seq (.reg [⟨(some 30), none, .mv (t 5)⟩, ⟨(some 31), none, .mv (t 8)⟩, ⟨(some 32), none, .bin .neq (t 30) (t 31)⟩, ⟨(some 33), none, .mv (t 32)⟩, ⟨(some 34), (some (33, false)), .mv (t 4)⟩, ⟨(some 35), (some (33, false)), .mv (t 7)⟩, ⟨(some 36), (some (33, false)), .bin .neq (t 34) (t 35)⟩, ⟨(some 37), none, .pick (t 33) (k (.bool true)) (t 36)⟩, ⟨(some 38), none, .mv (t 37)⟩, ⟨(some 39), (some (38, false)), .mv (t 3)⟩, ⟨(some 40), (some (38, false)), .mv (t 6)⟩, ⟨(some 41), (some (38, false)), .pcall (k (.fn 13 [] [])) [(t 39), (t 40)]⟩, ⟨(some 42), (some (38, false)), .un .not (t 41)⟩, ⟨(some 43), none, .pick (t 38) (k (.bool true)) (t 42)⟩])
  (.cond (t 43)
  (.seq (.reg [⟨(some 2), none, .mv (k (.bool false))⟩])
  .ret)
  .skip))
  (.seq (.seq (.reg [⟨(some 9), none, .mv (k (.int .i64 0))⟩])
  (.block 0
  (.loop
  (.seq (.seq (.reg [⟨(some 44), none, .mv (t 9)⟩, ⟨(some 45), none, .mv (t 3)⟩, ⟨(some 46), none, .len (t 45)⟩, ⟨(some 47), none, .bin .lss (t 44) (t 46)⟩])
  (.cond (t 47)
  .skip
  (.exit 0)))
  (.seq (.block 1
  (.seq (.reg [⟨(some 50), none, .mv (t 3)⟩, ⟨(some 51), none, .mv (t 9)⟩, ⟨(some 52), none, .iaddr 3 (t 50) (t 51)⟩, ⟨(some 53), none, .load true 3 (t 52)⟩, ⟨(some 54), none, .pcall (k (.fn 15 [] [])) [(t 53)]⟩, ⟨(some 55), none, .un .not (t 54)⟩])
  (.cond (t 55)
  (.seq (.reg [⟨(some 2), none, .mv (k (.bool false))⟩])
  .ret)
  .skip)))
  (.reg [⟨(some 48), none, .mv (t 9)⟩, ⟨(some 49), none, .bin .add (t 48) (k (.int .i64 1))⟩, ⟨(some 9), none, .mv (t 49)⟩]))))))
  (.seq (.reg [⟨(some 2), none, .mv (k (.bool true))⟩])
  .ret)))))))
theorem fn5 : Fn Go.Proofs.Tryd.prog 5 56 [.inl 2] c5 :=
  ⟨⟨_, _, Go.Proofs.Tryd.func5, rfl, by kernel_rfl, Go.Proofs.Tryd.ntmps5, by kernel_rfl, ⟨fun f => imp.contains f, false⟩, by kernel_rfl⟩⟩

def c6 : C :=
  (.seq (.reg [⟨(some 1), none, .box (t 0)⟩, ⟨(some 2), none, .mv (k (.bool false))⟩])
  (.seq (.seq (.reg [⟨(some 7), none, .pcall (k (.fn 8 [] [])) []⟩, ⟨(some 8), none, .un .not (t 7)⟩, ⟨(some 9), none, .mv (t 8)⟩, ⟨(some 10), (some (9, false)), .faddr 1 (t 1)⟩, ⟨(some 11), (some (9, false)), .load false 1 (t 10)⟩, ⟨(some 12), (some (9, false)), .lens (t 11)⟩, ⟨(some 13), (some (9, false)), .bin .gtr (t 12) (k (.int .i64 200))⟩, ⟨(some 14), none, .pick (t 9) (k (.bool true)) (t 13)⟩])
  (.cond (t 14)
  (.seq (.reg [⟨(some 15), none, .pcall (k (.fn 8 [] [])) []⟩, ⟨(some 2), none, .mv (t 15)⟩])
  .ret)
  .skip))
  (.seq (.reg [⟨(some 16), none, .load true 3 (t 1)⟩, ⟨(some 17), none, .pcall (k (.fn 16 [] [])) [(t 16)]⟩, ⟨(some 3), none, .mv (t 17)⟩])
  (.seq (.seq (.draw 0 [(⟨(some 18), none, .load true 3 (t 1)⟩, []), (⟨(some 19), none, .pcall (k (.fn 15 [] [])) [(t 18)]⟩, []), (⟨(some 20), none, .load true 3 (t 1)⟩, []), (⟨(some 21), none, .pcall (k (.fn 10 [] [])) [(t 20)]⟩, []), (⟨(some 22), none, .eq1 .bool true (t 19) (t 21)⟩, [])])
  (.cond (t 22)
  (.seq (.reg [⟨(some 2), none, .mv (k (.bool false))⟩])
  .ret)
  .skip))
  (.seq (.seq (.reg [⟨(some 23), none, .load true 3 (t 1)⟩, ⟨(some 24), none, .pcall (k (.fn 10 [] [])) [(t 23)]⟩, ⟨(some 25), none, .un .not (t 24)⟩])
  (.cond (t 25)
  (.seq (.reg [⟨(some 26), none, .mv (t 3)⟩, ⟨(some 27), none, .bin .eql (t 26) (k (.str []))⟩, ⟨(some 2), none, .mv (t 27)⟩])
  .ret)
  .skip))
  (.seq (.reg [⟨(some 29), none, .mv (t 3)⟩, ⟨(some 30), none, .pcall (k (.fn 12 [] [])) [(t 29)]⟩, ⟨(some 28), none, .mv (t 30)⟩, ⟨(some 31), none, .ext 0 (t 28)⟩, ⟨(some 32), none, .ext 1 (t 28)⟩, ⟨(some 33), none, .ext 2 (t 28)⟩, ⟨(some 4), none, .mv (t 31)⟩, ⟨(some 5), none, .mv (t 32)⟩, ⟨(some 6), none, .mv (t 33)⟩])
  (.seq (.draw 0 [(⟨(some 34), none, .mv (t 3)⟩, []), (⟨(some 35), none, .load true 3 (t 1)⟩, []), (⟨(some 36), none, .pcall (k (.fn 11 [] [])) [(t 35)]⟩, []), (⟨(some 37), none, .bin .eql (t 34) (t 36)⟩, []), (⟨(some 38), none, .mv (t 37)⟩, []), (⟨(some 39), (some (38, true)), .mv (t 6)⟩, []), (⟨(some 40), (some (38, true)), .bin .eql (t 39) (k (.int .i64 0))⟩, []), (⟨(some 41), none, .pick (t 38) (t 40) (k (.bool false))⟩, []), (⟨(some 42), none, .mv (t 41)⟩, []), (⟨(some 43), (some (42, true)), .mv (t 4)⟩, []), (⟨(some 44), (some (42, true)), .len (t 43)⟩, []), (⟨(some 45), (some (42, true)), .bin .eql (t 44) (k (.int .i64 1))⟩, []), (⟨(some 46), none, .pick (t 42) (t 45) (k (.bool false))⟩, []), (⟨(some 47), none, .mv (t 46)⟩, []), (⟨(some 48), (some (47, true)), .mv (t 4)⟩, []), (⟨(some 49), (some (47, true)), .iaddr 3 (t 48) (k (.int .i64 0))⟩, []), (⟨(some 50), (some (47, true)), .load true 3 (t 49)⟩, []), (⟨(some 51), (some (47, true)), .load true 3 (t 1)⟩, []), (⟨(some 52), (some (47, true)), .eqa [.int, .str, .int] false (t 50) (t 51)⟩, []), (⟨(some 53), none, .pick (t 47) (t 52) (k (.bool false))⟩, []), (⟨(some 2), none, .mv (t 53)⟩, [])])
  .ret)))))))
theorem fn6 : Fn Go.Proofs.Tryd.prog 6 54 [.inl 2] c6 :=
  ⟨⟨_, _, Go.Proofs.Tryd.func6, rfl, by kernel_rfl, Go.Proofs.Tryd.ntmps6, by kernel_rfl, ⟨fun f => imp.contains f, false⟩, by kernel_rfl⟩⟩

def c8 : C :=
  (.seq (.reg [⟨(some 0), none, .mv (k (.bool false))⟩])
  (.seq (.reg [⟨(some 5), none, .pcall (k (.fn 12 [] [])) [(k (.str [120, 32, 60, 61, 32, 64, 53]))]⟩, ⟨(some 4), none, .mv (t 5)⟩, ⟨(some 6), none, .ext 0 (t 4)⟩, ⟨(some 7), none, .ext 1 (t 4)⟩, ⟨(some 8), none, .ext 2 (t 4)⟩, ⟨(some 1), none, .mv (t 6)⟩, ⟨(some 2), none, .mv (t 7)⟩, ⟨(some 3), none, .mv (t 8)⟩])
  (.seq (.reg [⟨(some 9), none, .mv (t 3)⟩, ⟨(some 10), none, .bin .eql (t 9) (k (.int .i64 0))⟩, ⟨(some 11), none, .mv (t 10)⟩, ⟨(some 12), (some (11, true)), .mv (t 2)⟩, ⟨(some 13), (some (11, true)), .bin .eql (t 12) (k (.int .i64 0))⟩, ⟨(some 14), none, .pick (t 11) (t 13) (k (.bool false))⟩, ⟨(some 15), none, .mv (t 14)⟩, ⟨(some 16), (some (15, true)), .mv (t 1)⟩, ⟨(some 17), (some (15, true)), .len (t 16)⟩, ⟨(some 18), (some (15, true)), .bin .eql (t 17) (k (.int .i64 3))⟩, ⟨(some 19), none, .pick (t 15) (t 18) (k (.bool false))⟩, ⟨(some 20), none, .mv (t 19)⟩, ⟨(some 21), (some (20, true)), .mv (t 1)⟩, ⟨(some 22), (some (20, true)), .iaddr 3 (t 21) (k (.int .i64 2))⟩, ⟨(some 23), (some (20, true)), .faddr 2 (t 22)⟩, ⟨(some 24), (some (20, true)), .load false 1 (t 23)⟩, ⟨(some 25), (some (20, true)), .bin .eql (t 24) (k (.int .i64 5))⟩, ⟨(some 26), none, .pick (t 20) (t 25) (k (.bool false))⟩, ⟨(some 0), none, .mv (t 26)⟩])
  .ret)))
theorem fn8 : Fn Go.Proofs.Tryd.prog 8 27 [.inl 0] c8 :=
  ⟨⟨_, _, Go.Proofs.Tryd.func8, rfl, by kernel_rfl, Go.Proofs.Tryd.ntmps8, by kernel_rfl, ⟨fun f => imp.contains f, false⟩, by kernel_rfl⟩⟩

def c10 : C :=
  (.seq (.reg [⟨(some 1), none, .box (t 0)⟩, ⟨(some 2), none, .mv (k (.bool false))⟩])
  (.seq (.seq (.reg [⟨(some 4), none, .faddr 0 (t 1)⟩, ⟨(some 5), none, .load false 1 (t 4)⟩])
  (.block 0
  (.seq (.reg [⟨(some 7), none, .bin .eql (t 5) (k (.int .i64 1))⟩, ⟨(some 6), none, .mv (t 7)⟩])
  (.cond (t 6)
  (.seq (.reg [⟨(some 8), none, .faddr 1 (t 1)⟩, ⟨(some 9), none, .load false 1 (t 8)⟩, ⟨(some 10), none, .pcall (k (.fn 18 [] [])) [(t 9)]⟩, ⟨(some 11), none, .mv (t 10)⟩, ⟨(some 12), (some (11, true)), .faddr 2 (t 1)⟩, ⟨(some 13), (some (11, true)), .load false 1 (t 12)⟩, ⟨(some 14), (some (11, true)), .bin .eql (t 13) (k (.int .i64 0))⟩, ⟨(some 15), none, .pick (t 11) (t 14) (k (.bool false))⟩, ⟨(some 2), none, .mv (t 15)⟩])
  .ret)
  (.seq (.reg [⟨(some 17), none, .bin .eql (t 5) (k (.int .i64 2))⟩, ⟨(some 16), none, .mv (t 17)⟩])
  (.cond (t 16)
  (.seq (.reg [⟨(some 18), none, .faddr 1 (t 1)⟩, ⟨(some 19), none, .load false 1 (t 18)⟩, ⟨(some 20), none, .bin .eql (t 19) (k (.str []))⟩, ⟨(some 21), none, .mv (t 20)⟩, ⟨(some 22), (some (21, true)), .faddr 2 (t 1)⟩, ⟨(some 23), (some (21, true)), .load false 1 (t 22)⟩, ⟨(some 24), (some (21, true)), .bin .geq (t 23) (k (.int .i64 0))⟩, ⟨(some 25), none, .pick (t 21) (t 24) (k (.bool false))⟩, ⟨(some 2), none, .mv (t 25)⟩])
  .ret)
  (.seq (.reg [⟨(some 27), none, .bin .eql (t 5) (k (.int .i64 3))⟩, ⟨(some 26), none, .mv (t 27)⟩])
  (.cond (t 26)
  (.seq (.seq (.reg [⟨(some 3), none, .mv (k (.int .i64 0))⟩])
  (.block 1
  (.loop
  (.seq (.seq (.reg [⟨(some 28), none, .mv (t 3)⟩, ⟨(some 29), none, .faddr 1 (t 1)⟩, ⟨(some 30), none, .load false 1 (t 29)⟩, ⟨(some 31), none, .lens (t 30)⟩, ⟨(some 32), none, .bin .lss (t 28) (t 31)⟩])
  (.cond (t 32)
  .skip
  (.exit 1)))
  (.seq (.block 2
  (.seq (.reg [⟨(some 35), none, .faddr 1 (t 1)⟩, ⟨(some 36), none, .load false 1 (t 35)⟩, ⟨(some 37), none, .mv (t 3)⟩, ⟨(some 38), none, .idxs (t 36) (t 37)⟩, ⟨(some 39), none, .bin .lss (t 38) (k (.int .u8 32))⟩, ⟨(some 40), none, .mv (t 39)⟩, ⟨(some 41), (some (40, false)), .faddr 1 (t 1)⟩, ⟨(some 42), (some (40, false)), .load false 1 (t 41)⟩, ⟨(some 43), (some (40, false)), .mv (t 3)⟩, ⟨(some 44), (some (40, false)), .idxs (t 42) (t 43)⟩, ⟨(some 45), (some (40, false)), .bin .gtr (t 44) (k (.int .u8 126))⟩, ⟨(some 46), none, .pick (t 40) (k (.bool true)) (t 45)⟩])
  (.cond (t 46)
  (.seq (.reg [⟨(some 2), none, .mv (k (.bool false))⟩])
  .ret)
  .skip)))
  (.reg [⟨(some 33), none, .mv (t 3)⟩, ⟨(some 34), none, .bin .add (t 33) (k (.int .i64 1))⟩, ⟨(some 3), none, .mv (t 34)⟩]))))))
  (.seq (.reg [⟨(some 47), none, .faddr 1 (t 1)⟩, ⟨(some 48), none, .load false 1 (t 47)⟩, ⟨(some 49), none, .lens (t 48)⟩, ⟨(some 50), none, .bin .leq (t 49) (k (.int .i64 64))⟩, ⟨(some 51), none, .mv (t 50)⟩, ⟨(some 52), (some (51, true)), .faddr 2 (t 1)⟩, ⟨(some 53), (some (51, true)), .load false 1 (t 52)⟩, ⟨(some 54), (some (51, true)), .bin .eql (t 53) (k (.int .i64 0))⟩, ⟨(some 55), none, .pick (t 51) (t 54) (k (.bool false))⟩, ⟨(some 2), none, .mv (t 55)⟩])
  .ret))
  (.seq (.reg [⟨(some 57), none, .bin .eql (t 5) (k (.int .i64 4))⟩, ⟨(some 56), none, .mv (t 57)⟩])
  (.cond (t 56)
  (.seq (.reg [⟨(some 58), none, .faddr 1 (t 1)⟩, ⟨(some 59), none, .load false 1 (t 58)⟩, ⟨(some 60), none, .bin .eql (t 59) (k (.str []))⟩, ⟨(some 61), none, .mv (t 60)⟩, ⟨(some 62), (some (61, true)), .faddr 2 (t 1)⟩, ⟨(some 63), (some (61, true)), .load false 1 (t 62)⟩, ⟨(some 64), (some (61, true)), .bin .geq (t 63) (k (.int .i64 0))⟩, ⟨(some 65), none, .pick (t 61) (t 64) (k (.bool false))⟩, ⟨(some 66), none, .mv (t 65)⟩, ⟨(some 67), (some (66, true)), .faddr 2 (t 1)⟩, ⟨(some 68), (some (66, true)), .load false 1 (t 67)⟩, ⟨(some 69), (some (66, true)), .bin .leq (t 68) (k (.int .i64 1099511627776))⟩, ⟨(some 70), none, .pick (t 66) (t 69) (k (.bool false))⟩, ⟨(some 2), none, .mv (t 70)⟩])
  .ret)
  (.seq (.reg [⟨(some 72), none, .bin .eql (t 5) (k (.int .i64 5))⟩, ⟨(some 71), none, .mv (t 72)⟩])
  (.cond (t 71)
  (.seq (.reg [⟨(some 73), none, .faddr 1 (t 1)⟩, ⟨(some 74), none, .load false 1 (t 73)⟩, ⟨(some 75), none, .pcall (k (.fn 19 [] [])) [(t 74)]⟩, ⟨(some 76), none, .mv (t 75)⟩, ⟨(some 77), (some (76, true)), .faddr 2 (t 1)⟩, ⟨(some 78), (some (76, true)), .load false 1 (t 77)⟩, ⟨(some 79), (some (76, true)), .bin .eql (t 78) (k (.int .i64 0))⟩, ⟨(some 80), none, .pick (t 76) (t 79) (k (.bool false))⟩, ⟨(some 2), none, .mv (t 80)⟩])
  .ret)
  .skip))))))))))))
  (.seq (.reg [⟨(some 2), none, .mv (k (.bool false))⟩])
  .ret)))
theorem fn10 : Fn Go.Proofs.Tryd.prog 10 81 [.inl 2] c10 :=
  ⟨⟨_, _, Go.Proofs.Tryd.func10, rfl, by kernel_rfl, Go.Proofs.Tryd.ntmps10, by kernel_rfl, ⟨fun f => imp.contains f, false⟩, by kernel_rfl⟩⟩

def c12 : C :=
  (.seq (.reg [⟨(some 2), none, .mv (k .nils)⟩, ⟨(some 3), none, .mv (k (.int .i64 0))⟩, ⟨(some 4), none, .mv (k (.int .i64 0))⟩])
  (.seq (.seq (.reg [⟨(some 9), none, .mv (t 0)⟩, ⟨(some 10), none, .lens (t 9)⟩, ⟨(some 11), none, .bin .gtr (t 10) (k (.int .i64 4096))⟩])
  (.cond (t 11)
  (.seq (.reg [⟨(some 2), none, .mv (k .nils)⟩, ⟨(some 3), none, .mv (k (.int .i64 0))⟩, ⟨(some 4), none, .mv (k (.int .i64 3))⟩])
  .ret)
  .skip))
  (.seq (.reg [⟨(some 5), none, .mv (k .nils)⟩])
  (.seq (.seq (.reg [⟨(some 12), none, .mv (t 0)⟩, ⟨(some 13), none, .pcall (k (.fn 21 [] [])) [(t 12), (k (.int .i64 0))]⟩, ⟨(some 6), none, .mv (t 13)⟩])
  (.block 0
  (.loop
  (.seq (.seq (.reg [⟨(some 14), none, .mv (t 6)⟩, ⟨(some 15), none, .mv (t 0)⟩, ⟨(some 16), none, .lens (t 15)⟩, ⟨(some 17), none, .bin .lss (t 14) (t 16)⟩])
  (.cond (t 17)
  .skip
  (.exit 0)))
  (.seq (.block 1
  (.seq (.reg [⟨(some 22), none, .mv (t 0)⟩, ⟨(some 23), none, .mv (t 6)⟩, ⟨(some 24), none, .pcall (k (.fn 22 [] [])) [(t 22), (t 23)]⟩, ⟨(some 21), none, .mv (t 24)⟩, ⟨(some 25), none, .ext 0 (t 21)⟩, ⟨(some 26), none, .ext 1 (t 21)⟩, ⟨(some 7), none, .alloc [(.int .i64 0), (.str []), (.int .i64 0)]⟩, ⟨none, none, .store 3 (t 7) (t 25)⟩, ⟨(some 8), none, .mv (t 26)⟩])
  (.seq (.block 2
  (.seq (.reg [⟨(some 28), none, .mv (t 8)⟩, ⟨(some 29), none, .bin .eql (t 28) (k (.int .i64 0))⟩, ⟨(some 27), none, .mv (t 29)⟩])
  (.cond (t 27)
  (.seq (.reg [⟨(some 30), none, .mv (t 6)⟩, ⟨(some 2), none, .mv (k .nils)⟩, ⟨(some 3), none, .mv (t 30)⟩, ⟨(some 4), none, .mv (k (.int .i64 2))⟩])
  .ret)
  (.seq (.reg [⟨(some 32), none, .mv (t 5)⟩, ⟨(some 33), none, .len (t 32)⟩, ⟨(some 34), none, .bin .eql (t 33) (k (.int .i64 600))⟩, ⟨(some 31), none, .mv (t 34)⟩])
  (.cond (t 31)
  (.seq (.reg [⟨(some 35), none, .mv (t 6)⟩, ⟨(some 2), none, .mv (k .nils)⟩, ⟨(some 3), none, .mv (t 35)⟩, ⟨(some 4), none, .mv (k (.int .i64 13))⟩])
  .ret)
  .skip)))))
  (.seq (.reg [⟨(some 36), none, .mv (t 5)⟩, ⟨(some 37), none, .load true 3 (t 7)⟩, ⟨(some 38), none, .bsl 3 [(t 37)]⟩, ⟨(some 39), none, .app false 3 32 (t 36) (t 38)⟩, ⟨(some 5), none, .mv (t 39)⟩])
  (.reg [⟨(some 40), none, .mv (t 6)⟩, ⟨(some 41), none, .mv (t 8)⟩, ⟨(some 42), none, .bin .add (t 40) (t 41)⟩, ⟨(some 6), none, .mv (t 42)⟩])))))
  (.reg [⟨(some 18), none, .mv (t 0)⟩, ⟨(some 19), none, .mv (t 6)⟩, ⟨(some 20), none, .pcall (k (.fn 21 [] [])) [(t 18), (t 19)]⟩, ⟨(some 6), none, .mv (t 20)⟩]))))))
  (.seq (.reg [⟨(some 43), none, .mv (t 5)⟩, ⟨(some 2), none, .mv (t 43)⟩, ⟨(some 3), none, .mv (k (.int .i64 0))⟩, ⟨(some 4), none, .mv (k (.int .i64 0))⟩])
  .ret)))))
theorem fn12 : Fn Go.Proofs.Tryd.prog 12 44 [.inl 2, .inl 3, .inl 4] c12 :=
  ⟨⟨_, _, Go.Proofs.Tryd.func12, rfl, by kernel_rfl, Go.Proofs.Tryd.ntmps12, by kernel_rfl, ⟨fun f => imp.contains f, false⟩, by kernel_rfl⟩⟩

def c15 : C :=
  (.seq (.reg [⟨(some 1), none, .box (t 0)⟩, ⟨(some 2), none, .mv (k (.bool false))⟩])
  (.seq (.seq (.reg [⟨(some 3), none, .faddr 0 (t 1)⟩, ⟨(some 4), none, .load false 1 (t 3)⟩])
  (.block 0
  (.seq (.reg [⟨(some 6), none, .bin .eql (t 4) (k (.int .i64 1))⟩, ⟨(some 5), none, .mv (t 6)⟩])
  (.cond (t 5)
  (.seq (.draw 0 [(⟨(some 7), none, .faddr 2 (t 1)⟩, []), (⟨(some 8), none, .load false 1 (t 7)⟩, []), (⟨(some 9), none, .bin .eql (t 8) (k (.int .i64 0))⟩, []), (⟨(some 10), none, .mv (t 9)⟩, []), (⟨(some 11), (some (10, true)), .faddr 1 (t 1)⟩, []), (⟨(some 12), (some (10, true)), .load false 1 (t 11)⟩, []), (⟨(some 13), (some (10, true)), .lens (t 12)⟩, []), (⟨(some 14), (some (10, true)), .bin .geq (t 13) (k (.int .i64 1))⟩, []), (⟨(some 15), none, .pick (t 10) (t 14) (k (.bool false))⟩, []), (⟨(some 16), none, .mv (t 15)⟩, []), (⟨(some 17), (some (16, true)), .faddr 1 (t 1)⟩, []), (⟨(some 18), (some (16, true)), .load false 1 (t 17)⟩, []), (⟨(some 19), (some (16, true)), .lens (t 18)⟩, []), (⟨(some 20), (some (16, true)), .bin .leq (t 19) (k (.int .i64 64))⟩, []), (⟨(some 21), none, .pick (t 16) (t 20) (k (.bool false))⟩, []), (⟨(some 22), none, .mv (t 21)⟩, []), (⟨(some 23), (some (22, true)), .faddr 1 (t 1)⟩, []), (⟨(some 24), (some (22, true)), .load false 1 (t 23)⟩, []), (⟨(some 25), (some (22, true)), .idxs (t 24) (k (.int .i64 0))⟩, []), (⟨(some 26), (some (22, true)), .bin .geq (t 25) (k (.int .u8 97))⟩, []), (⟨(some 27), none, .pick (t 22) (t 26) (k (.bool false))⟩, []), (⟨(some 28), none, .mv (t 27)⟩, []), (⟨(some 29), (some (28, true)), .faddr 1 (t 1)⟩, []), (⟨(some 30), (some (28, true)), .load false 1 (t 29)⟩, []), (⟨(some 31), (some (28, true)), .idxs (t 30) (k (.int .i64 0))⟩, []), (⟨(some 32), (some (28, true)), .bin .leq (t 31) (k (.int .u8 122))⟩, []), (⟨(some 33), none, .pick (t 28) (t 32) (k (.bool false))⟩, []), (⟨(some 34), none, .mv (t 33)⟩, []), (⟨(some 35), (some (34, true)), .faddr 1 (t 1)⟩, []), (⟨(some 36), (some (34, true)), .load false 1 (t 35)⟩, []), (⟨(some 37), (some (34, true)), .pcall (k (.fn 25 [] [])) [(t 36), (k (.int .i64 0)), (k (.fn 26 [] []))]⟩, []), (⟨(some 38), (some (34, true)), .faddr 1 (t 1)⟩, []), (⟨(some 39), (some (34, true)), .load false 1 (t 38)⟩, []), (⟨(some 40), (some (34, true)), .lens (t 39)⟩, []), (⟨(some 41), (some (34, true)), .bin .eql (t 37) (t 40)⟩, []), (⟨(some 42), none, .pick (t 34) (t 41) (k (.bool false))⟩, []), (⟨(some 2), none, .mv (t 42)⟩, [])])
  .ret)
  (.seq (.reg [⟨(some 44), none, .bin .eql (t 4) (k (.int .i64 2))⟩, ⟨(some 43), none, .mv (t 44)⟩])
  (.cond (t 43)
  (.seq (.reg [⟨(some 45), none, .faddr 1 (t 1)⟩, ⟨(some 46), none, .load false 1 (t 45)⟩, ⟨(some 47), none, .bin .eql (t 46) (k (.str []))⟩, ⟨(some 48), none, .mv (t 47)⟩, ⟨(some 49), (some (48, true)), .faddr 2 (t 1)⟩, ⟨(some 50), (some (48, true)), .load false 1 (t 49)⟩, ⟨(some 51), (some (48, true)), .bin .geq (t 50) (k (.int .i64 0))⟩, ⟨(some 52), none, .pick (t 48) (t 51) (k (.bool false))⟩, ⟨(some 2), none, .mv (t 52)⟩])
  .ret)
  (.seq (.reg [⟨(some 54), none, .bin .eql (t 4) (k (.int .i64 4))⟩, ⟨(some 53), none, .mv (t 54)⟩])
  (.cond (t 53)
  (.seq (.reg [⟨(some 55), none, .faddr 1 (t 1)⟩, ⟨(some 56), none, .load false 1 (t 55)⟩, ⟨(some 57), none, .bin .eql (t 56) (k (.str []))⟩, ⟨(some 58), none, .mv (t 57)⟩, ⟨(some 59), (some (58, true)), .faddr 2 (t 1)⟩, ⟨(some 60), (some (58, true)), .load false 1 (t 59)⟩, ⟨(some 61), (some (58, true)), .bin .geq (t 60) (k (.int .i64 0))⟩, ⟨(some 62), none, .pick (t 58) (t 61) (k (.bool false))⟩, ⟨(some 63), none, .mv (t 62)⟩, ⟨(some 64), (some (63, true)), .faddr 2 (t 1)⟩, ⟨(some 65), (some (63, true)), .load false 1 (t 64)⟩, ⟨(some 66), (some (63, true)), .bin .leq (t 65) (k (.int .i64 1099511627776))⟩, ⟨(some 67), none, .pick (t 63) (t 66) (k (.bool false))⟩, ⟨(some 2), none, .mv (t 67)⟩])
  .ret)
  (.seq (.reg [⟨(some 69), none, .bin .eql (t 4) (k (.int .i64 3))⟩, ⟨(some 68), none, .mv (t 69)⟩])
  (.cond (t 68)
  (.seq (.draw 0 [(⟨(some 70), none, .faddr 2 (t 1)⟩, []), (⟨(some 71), none, .load false 1 (t 70)⟩, []), (⟨(some 72), none, .bin .eql (t 71) (k (.int .i64 0))⟩, []), (⟨(some 73), none, .mv (t 72)⟩, []), (⟨(some 74), (some (73, true)), .faddr 1 (t 1)⟩, []), (⟨(some 75), (some (73, true)), .load false 1 (t 74)⟩, []), (⟨(some 76), (some (73, true)), .lens (t 75)⟩, []), (⟨(some 77), (some (73, true)), .bin .leq (t 76) (k (.int .i64 64))⟩, []), (⟨(some 78), none, .pick (t 73) (t 77) (k (.bool false))⟩, []), (⟨(some 79), none, .mv (t 78)⟩, []), (⟨(some 80), (some (79, true)), .faddr 1 (t 1)⟩, []), (⟨(some 81), (some (79, true)), .load false 1 (t 80)⟩, []), (⟨(some 82), (some (79, true)), .pcall (k (.fn 25 [] [])) [(t 81), (k (.int .i64 0)), (k (.fn 29 [] []))]⟩, []), (⟨(some 83), (some (79, true)), .faddr 1 (t 1)⟩, []), (⟨(some 84), (some (79, true)), .load false 1 (t 83)⟩, []), (⟨(some 85), (some (79, true)), .lens (t 84)⟩, []), (⟨(some 86), (some (79, true)), .bin .eql (t 82) (t 85)⟩, []), (⟨(some 87), none, .pick (t 79) (t 86) (k (.bool false))⟩, []), (⟨(some 2), none, .mv (t 87)⟩, [])])
  .ret)
  (.seq (.reg [⟨(some 89), none, .bin .eql (t 4) (k (.int .i64 5))⟩, ⟨(some 88), none, .mv (t 89)⟩])
  (.cond (t 88)
  (.seq (.draw 0 [(⟨(some 90), none, .faddr 2 (t 1)⟩, []), (⟨(some 91), none, .load false 1 (t 90)⟩, []), (⟨(some 92), none, .bin .eql (t 91) (k (.int .i64 0))⟩, []), (⟨(some 93), none, .mv (t 92)⟩, []), (⟨(some 94), (some (93, true)), .pcall (k (.fn 31 [] [])) []⟩, []), (⟨(some 95), (some (93, true)), .faddr 1 (t 1)⟩, []), (⟨(some 96), (some (93, true)), .load false 1 (t 95)⟩, []), (⟨(some 97), (some (93, true)), .pcall (k (.fn 30 [] [])) [(t 94), (t 96)]⟩, []), (⟨(some 98), none, .pick (t 93) (t 97) (k (.bool false))⟩, []), (⟨(some 2), none, .mv (t 98)⟩, [])])
  .ret)
  .skip))))))))))))
  (.seq (.reg [⟨(some 2), none, .mv (k (.bool false))⟩])
  .ret)))
theorem fn15 : Fn Go.Proofs.Tryd.prog 15 99 [.inl 2] c15 :=
  ⟨⟨_, _, Go.Proofs.Tryd.func15, rfl, by kernel_rfl, Go.Proofs.Tryd.ntmps15, by kernel_rfl, ⟨fun f => imp.contains f, false⟩, by kernel_rfl⟩⟩

def c16 : C :=
  (.seq (.reg [⟨(some 1), none, .box (t 0)⟩, ⟨(some 2), none, .mv (k (.str []))⟩])
  (.seq (.seq (.reg [⟨(some 3), none, .load true 3 (t 1)⟩, ⟨(some 4), none, .pcall (k (.fn 15 [] [])) [(t 3)]⟩, ⟨(some 5), none, .un .not (t 4)⟩])
  (.cond (t 5)
  (.seq (.reg [⟨(some 2), none, .mv (k (.str []))⟩])
  .ret)
  .skip))
  (.seq (.seq (.reg [⟨(some 6), none, .faddr 0 (t 1)⟩, ⟨(some 7), none, .load false 1 (t 6)⟩])
  (.block 0
  (.seq (.reg [⟨(some 9), none, .bin .eql (t 7) (k (.int .i64 2))⟩, ⟨(some 8), none, .mv (t 9)⟩])
  (.cond (t 8)
  (.seq (.reg [⟨(some 10), none, .faddr 2 (t 1)⟩, ⟨(some 11), none, .load false 1 (t 10)⟩, ⟨(some 12), none, .pcall (k (.fn 32 [] [])) [(t 11), (k (.int .i64 10))]⟩, ⟨(some 2), none, .mv (t 12)⟩])
  .ret)
  (.seq (.reg [⟨(some 14), none, .bin .eql (t 7) (k (.int .i64 4))⟩, ⟨(some 13), none, .mv (t 14)⟩])
  (.cond (t 13)
  (.seq (.reg [⟨(some 15), none, .faddr 2 (t 1)⟩, ⟨(some 16), none, .load false 1 (t 15)⟩, ⟨(some 17), none, .pcall (k (.fn 32 [] [])) [(t 16), (k (.int .i64 10))]⟩, ⟨(some 18), none, .bin .add (k (.str [64])) (t 17)⟩, ⟨(some 2), none, .mv (t 18)⟩])
  .ret)
  (.seq (.reg [⟨(some 20), none, .bin .eql (t 7) (k (.int .i64 3))⟩, ⟨(some 19), none, .mv (t 20)⟩])
  (.cond (t 19)
  (.seq (.reg [⟨(some 21), none, .faddr 1 (t 1)⟩, ⟨(some 22), none, .load false 1 (t 21)⟩, ⟨(some 23), none, .pcall (k (.fn 33 [] [])) [(t 22)]⟩, ⟨(some 2), none, .mv (t 23)⟩])
  .ret)
  .skip))))))))
  (.seq (.reg [⟨(some 24), none, .faddr 1 (t 1)⟩, ⟨(some 25), none, .load false 1 (t 24)⟩, ⟨(some 2), none, .mv (t 25)⟩])
  .ret))))
theorem fn16 : Fn Go.Proofs.Tryd.prog 16 26 [.inl 2] c16 :=
  ⟨⟨_, _, Go.Proofs.Tryd.func16, rfl, by kernel_rfl, Go.Proofs.Tryd.ntmps16, by kernel_rfl, ⟨fun f => imp.contains f, false⟩, by kernel_rfl⟩⟩

def c17 : C :=
  (.seq (.reg [⟨(some 2), none, .mv (k (.str []))⟩])
  (.seq (.reg [⟨(some 3), none, .mv (k .nils)⟩])
  (.seq (.seq (.reg [⟨(some 6), none, .mv (t 0)⟩, ⟨(some 7), none, .len (t 6)⟩, ⟨(some 8), none, .mv (k (.int .i64 0))⟩])
  (.block 0
  (.loop
  (.seq (.reg [⟨(some 9), none, .bin .lss (t 8) (t 7)⟩])
  (.seq (.cond (t 9)
  .skip
  (.exit 0))
  (.seq (.block 1
  (.seq (.reg [⟨(some 10), none, .iaddr 3 (t 6) (t 8)⟩, ⟨(some 11), none, .load true 3 (t 10)⟩, ⟨(some 5), none, .alloc [(.int .i64 0), (.str []), (.int .i64 0)]⟩, ⟨none, none, .store 3 (t 5) (t 11)⟩])
  (.reg [⟨(some 12), none, .mv (t 3)⟩, ⟨(some 13), none, .load true 3 (t 5)⟩, ⟨(some 14), none, .pcall (k (.fn 16 [] [])) [(t 13)]⟩, ⟨(some 15), none, .bsl 1 [(t 14)]⟩, ⟨(some 16), none, .app false 1 16 (t 12) (t 15)⟩, ⟨(some 3), none, .mv (t 16)⟩])))
  (.reg [⟨(some 17), none, .bin .add (t 8) (k (.int .i64 1))⟩, ⟨(some 8), none, .mv (t 17)⟩])))))))
  (.seq (.reg [⟨(some 18), none, .mv (t 3)⟩, ⟨(some 19), none, .pcall (k (.fn 34 [] [])) [(t 18), (k (.str [32]))]⟩, ⟨(some 2), none, .mv (t 19)⟩])
  .ret))))
theorem fn17 : Fn Go.Proofs.Tryd.prog 17 20 [.inl 2] c17 :=
  ⟨⟨_, _, Go.Proofs.Tryd.func17, rfl, by kernel_rfl, Go.Proofs.Tryd.ntmps17, by kernel_rfl, ⟨fun f => imp.contains f, false⟩, by kernel_rfl⟩⟩

def c27 : C :=
  (.seq (.reg [⟨(some 2), none, .mv (k (.bool false))⟩])
  (.seq (.reg [⟨(some 3), none, .mv (t 0)⟩, ⟨(some 4), none, .bin .geq (t 3) (k (.int .u8 97))⟩, ⟨(some 5), none, .mv (t 4)⟩, ⟨(some 6), (some (5, true)), .mv (t 0)⟩, ⟨(some 7), (some (5, true)), .bin .leq (t 6) (k (.int .u8 122))⟩, ⟨(some 8), none, .pick (t 5) (t 7) (k (.bool false))⟩, ⟨(some 9), none, .mv (t 8)⟩, ⟨(some 10), (some (9, false)), .mv (t 0)⟩, ⟨(some 11), (some (9, false)), .bin .eql (t 10) (k (.int .u8 95))⟩, ⟨(some 12), none, .pick (t 9) (k (.bool true)) (t 11)⟩, ⟨(some 2), none, .mv (t 12)⟩])
  .ret))
theorem fn27 : Fn Go.Proofs.Tryd.prog 27 13 [.inl 2] c27 :=
  ⟨⟨_, _, Go.Proofs.Tryd.func27, rfl, by kernel_rfl, Go.Proofs.Tryd.ntmps27, by kernel_rfl, ⟨fun f => imp.contains f, false⟩, by kernel_rfl⟩⟩

def c28 : C :=
  (.seq (.reg [⟨(some 2), none, .mv (k (.bool false))⟩])
  (.seq (.reg [⟨(some 3), none, .mv (t 0)⟩, ⟨(some 4), none, .bin .geq (t 3) (k (.int .u8 48))⟩, ⟨(some 5), none, .mv (t 4)⟩, ⟨(some 6), (some (5, true)), .mv (t 0)⟩, ⟨(some 7), (some (5, true)), .bin .leq (t 6) (k (.int .u8 57))⟩, ⟨(some 8), none, .pick (t 5) (t 7) (k (.bool false))⟩, ⟨(some 2), none, .mv (t 8)⟩])
  .ret))
theorem fn28 : Fn Go.Proofs.Tryd.prog 28 9 [.inl 2] c28 :=
  ⟨⟨_, _, Go.Proofs.Tryd.func28, rfl, by kernel_rfl, Go.Proofs.Tryd.ntmps28, by kernel_rfl, ⟨fun f => imp.contains f, false⟩, by kernel_rfl⟩⟩

def c29 : C :=
  (.seq (.reg [⟨(some 2), none, .mv (k (.bool false))⟩])
  (.seq (.reg [⟨(some 3), none, .mv (t 0)⟩, ⟨(some 4), none, .bin .geq (t 3) (k (.int .u8 32))⟩, ⟨(some 5), none, .mv (t 4)⟩, ⟨(some 6), (some (5, true)), .mv (t 0)⟩, ⟨(some 7), (some (5, true)), .bin .leq (t 6) (k (.int .u8 126))⟩, ⟨(some 8), none, .pick (t 5) (t 7) (k (.bool false))⟩, ⟨(some 2), none, .mv (t 8)⟩])
  .ret))
theorem fn29 : Fn Go.Proofs.Tryd.prog 29 9 [.inl 2] c29 :=
  ⟨⟨_, _, Go.Proofs.Tryd.func29, rfl, by kernel_rfl, Go.Proofs.Tryd.ntmps29, by kernel_rfl, ⟨fun f => imp.contains f, false⟩, by kernel_rfl⟩⟩

def c31 : C :=
  (.seq (.reg [⟨(some 0), none, .mv (k .nils)⟩])
  (.seq (.reg [⟨(some 1), none, .bsl 1 [(k (.str [61, 61])), (k (.str [33, 61])), (k (.str [60, 61])), (k (.str [62, 61])), (k (.str [123])), (k (.str [125])), (k (.str [40])), (k (.str [41])), (k (.str [91])), (k (.str [93])), (k (.str [59])), (k (.str [46])), (k (.str [44])), (k (.str [43])), (k (.str [45])), (k (.str [42])), (k (.str [60])), (k (.str [62]))]⟩, ⟨(some 0), none, .mv (t 1)⟩])
  .ret))
theorem fn31 : Fn Go.Proofs.Tryd.prog 31 2 [.inl 0] c31 :=
  ⟨⟨_, _, Go.Proofs.Tryd.func31, rfl, by kernel_rfl, Go.Proofs.Tryd.ntmps31, by kernel_rfl, ⟨fun f => imp.contains f, false⟩, by kernel_rfl⟩⟩

def c38 : C :=
  (.seq (.reg [⟨(some 2), none, .mv (k (.bool false))⟩])
  (.seq (.reg [⟨(some 3), none, .mv (t 0)⟩, ⟨(some 4), none, .bin .neq (t 3) (k (.int .u8 10))⟩, ⟨(some 2), none, .mv (t 4)⟩])
  .ret))
theorem fn38 : Fn Go.Proofs.Tryd.prog 38 5 [.inl 2] c38 :=
  ⟨⟨_, _, Go.Proofs.Tryd.func38, rfl, by kernel_rfl, Go.Proofs.Tryd.ntmps38, by kernel_rfl, ⟨fun f => imp.contains f, false⟩, by kernel_rfl⟩⟩

def c44 : C :=
  (.seq (.reg [⟨(some 2), none, .mv (k (.str []))⟩, ⟨(some 3), none, .mv (k (.bool false))⟩])
  (.seq (.seq (.reg [⟨(some 7), none, .mv (t 0)⟩, ⟨(some 8), none, .lens (t 7)⟩, ⟨(some 9), none, .bin .lss (t 8) (k (.int .i64 2))⟩, ⟨(some 10), none, .mv (t 9)⟩, ⟨(some 11), (some (10, false)), .mv (t 0)⟩, ⟨(some 12), (some (10, false)), .idxs (t 11) (k (.int .i64 0))⟩, ⟨(some 13), (some (10, false)), .bin .neq (t 12) (k (.int .u8 34))⟩, ⟨(some 14), none, .pick (t 10) (k (.bool true)) (t 13)⟩, ⟨(some 15), none, .mv (t 14)⟩, ⟨(some 16), (some (15, false)), .mv (t 0)⟩, ⟨(some 17), (some (15, false)), .mv (t 0)⟩, ⟨(some 18), (some (15, false)), .lens (t 17)⟩, ⟨(some 19), (some (15, false)), .bin .sub (t 18) (k (.int .i64 1))⟩, ⟨(some 20), (some (15, false)), .idxs (t 16) (t 19)⟩, ⟨(some 21), (some (15, false)), .bin .neq (t 20) (k (.int .u8 34))⟩, ⟨(some 22), none, .pick (t 15) (k (.bool true)) (t 21)⟩])
  (.cond (t 22)
  (.seq (.reg [⟨(some 2), none, .mv (k (.str []))⟩, ⟨(some 3), none, .mv (k (.bool false))⟩])
  .ret)
  .skip))
  (.seq (.reg [⟨(some 4), none, .mv (k (.str []))⟩])
  (.seq (.seq (.reg [⟨(some 5), none, .mv (k (.int .i64 1))⟩])
  (.block 0
  (.loop
  (.seq (.seq (.reg [⟨(some 23), none, .mv (t 5)⟩, ⟨(some 24), none, .mv (t 0)⟩, ⟨(some 25), none, .lens (t 24)⟩, ⟨(some 26), none, .bin .sub (t 25) (k (.int .i64 1))⟩, ⟨(some 27), none, .bin .lss (t 23) (t 26)⟩])
  (.cond (t 27)
  .skip
  (.exit 0)))
  (.seq (.block 1
  (.seq (.reg [⟨(some 30), none, .mv (t 0)⟩, ⟨(some 31), none, .mv (t 5)⟩, ⟨(some 32), none, .idxs (t 30) (t 31)⟩, ⟨(some 6), none, .mv (t 32)⟩])
  (.seq (.seq (.reg [⟨(some 33), none, .mv (t 6)⟩, ⟨(some 34), none, .bin .eql (t 33) (k (.int .u8 34))⟩, ⟨(some 35), none, .mv (t 34)⟩, ⟨(some 36), (some (35, false)), .mv (t 6)⟩, ⟨(some 37), (some (35, false)), .bin .lss (t 36) (k (.int .u8 32))⟩, ⟨(some 38), none, .pick (t 35) (k (.bool true)) (t 37)⟩, ⟨(some 39), none, .mv (t 38)⟩, ⟨(some 40), (some (39, false)), .mv (t 6)⟩, ⟨(some 41), (some (39, false)), .bin .gtr (t 40) (k (.int .u8 126))⟩, ⟨(some 42), none, .pick (t 39) (k (.bool true)) (t 41)⟩])
  (.cond (t 42)
  (.seq (.reg [⟨(some 2), none, .mv (k (.str []))⟩, ⟨(some 3), none, .mv (k (.bool false))⟩])
  .ret)
  .skip))
  (.seq (.seq (.reg [⟨(some 43), none, .mv (t 6)⟩, ⟨(some 44), none, .bin .eql (t 43) (k (.int .u8 92))⟩])
  (.cond (t 44)
  (.seq (.reg [⟨(some 45), none, .mv (t 5)⟩, ⟨(some 46), none, .bin .add (t 45) (k (.int .i64 1))⟩, ⟨(some 5), none, .mv (t 46)⟩])
  (.seq (.seq (.reg [⟨(some 47), none, .mv (t 5)⟩, ⟨(some 48), none, .mv (t 0)⟩, ⟨(some 49), none, .lens (t 48)⟩, ⟨(some 50), none, .bin .sub (t 49) (k (.int .i64 1))⟩, ⟨(some 51), none, .bin .eql (t 47) (t 50)⟩, ⟨(some 52), none, .mv (t 51)⟩, ⟨(some 53), (some (52, false)), .mv (t 0)⟩, ⟨(some 54), (some (52, false)), .mv (t 5)⟩, ⟨(some 55), (some (52, false)), .idxs (t 53) (t 54)⟩, ⟨(some 56), (some (52, false)), .bin .neq (t 55) (k (.int .u8 34))⟩, ⟨(some 57), (some (52, false)), .mv (t 56)⟩, ⟨(some 58), (some (57, true)), .mv (t 0)⟩, ⟨(some 59), (some (57, true)), .mv (t 5)⟩, ⟨(some 60), (some (57, true)), .idxs (t 58) (t 59)⟩, ⟨(some 61), (some (57, true)), .bin .neq (t 60) (k (.int .u8 92))⟩, ⟨(some 62), (some (52, false)), .pick (t 57) (t 61) (k (.bool false))⟩, ⟨(some 63), none, .pick (t 52) (k (.bool true)) (t 62)⟩])
  (.cond (t 63)
  (.seq (.reg [⟨(some 2), none, .mv (k (.str []))⟩, ⟨(some 3), none, .mv (k (.bool false))⟩])
  .ret)
  .skip))
  (.reg [⟨(some 64), none, .mv (t 0)⟩, ⟨(some 65), none, .mv (t 5)⟩, ⟨(some 66), none, .idxs (t 64) (t 65)⟩, ⟨(some 6), none, .mv (t 66)⟩])))
  .skip))
  (.reg [⟨(some 67), none, .mv (t 4)⟩, ⟨(some 68), none, .mv (t 6)⟩, ⟨(some 69), none, .bsl 1 [(t 68)]⟩, ⟨(some 70), none, .b2s (t 69)⟩, ⟨(some 71), none, .bin .add (t 67) (t 70)⟩, ⟨(some 4), none, .mv (t 71)⟩])))))
  (.reg [⟨(some 28), none, .mv (t 5)⟩, ⟨(some 29), none, .bin .add (t 28) (k (.int .i64 1))⟩, ⟨(some 5), none, .mv (t 29)⟩]))))))
  (.seq (.reg [⟨(some 72), none, .mv (t 4)⟩, ⟨(some 73), none, .mv (t 4)⟩, ⟨(some 74), none, .lens (t 73)⟩, ⟨(some 75), none, .bin .leq (t 74) (k (.int .i64 64))⟩, ⟨(some 2), none, .mv (t 72)⟩, ⟨(some 3), none, .mv (t 75)⟩])
  .ret)))))
theorem fn44 : Fn Go.Proofs.Tryd.prog 44 76 [.inl 2, .inl 3] c44 :=
  ⟨⟨_, _, Go.Proofs.Tryd.func44, rfl, by kernel_rfl, Go.Proofs.Tryd.ntmps44, by kernel_rfl, ⟨fun f => imp.contains f, false⟩, by kernel_rfl⟩⟩

def c45 : C :=
  (.seq (.reg [⟨(some 4), none, .mv (k (.int .i64 0))⟩])
  (.seq (.seq (.reg [⟨(some 6), none, .mv (t 0)⟩, ⟨(some 7), none, .len (t 6)⟩, ⟨(some 8), none, .mv (k (.int .i64 0))⟩])
  (.block 0
  (.loop
  (.seq (.reg [⟨(some 9), none, .bin .lss (t 8) (t 7)⟩])
  (.seq (.cond (t 9)
  .skip
  (.exit 0))
  (.seq (.block 1
  (.seq (.reg [⟨(some 10), none, .mv (t 8)⟩, ⟨(some 5), none, .mv (t 10)⟩])
  (.seq (.reg [⟨(some 11), none, .mv (t 1)⟩, ⟨(some 12), none, .mv (t 0)⟩, ⟨(some 13), none, .mv (t 5)⟩, ⟨(some 14), none, .iaddr 1 (t 12) (t 13)⟩, ⟨(some 15), none, .load false 1 (t 14)⟩, ⟨(some 16), none, .bin .eql (t 11) (t 15)⟩])
  (.cond (t 16)
  (.seq (.reg [⟨(some 17), none, .mv (t 5)⟩, ⟨(some 4), none, .mv (t 17)⟩])
  .ret)
  .skip))))
  (.reg [⟨(some 18), none, .bin .add (t 8) (k (.int .i64 1))⟩, ⟨(some 8), none, .mv (t 18)⟩])))))))
  (.seq (.reg [⟨(some 4), none, .mv (k (.int .i64 (-1)))⟩])
  .ret)))
theorem fn45 : Fn Go.Proofs.Tryd.prog 45 19 [.inl 4] c45 :=
  ⟨⟨_, _, Go.Proofs.Tryd.func45, rfl, by kernel_rfl, Go.Proofs.Tryd.ntmps45, by kernel_rfl, ⟨fun f => imp.contains f, false⟩, by kernel_rfl⟩⟩

end GP
namespace GP
open Go Go.Proofs
open Rd O
set_option maxRecDepth 100000
def c9 : C :=
  (.seq (.reg [⟨(some 4), none, .mv (k (.bool false))⟩])
  (.seq (.seq (.reg [⟨(some 5), none, .mv (k (.int .i64 0))⟩])
  (.block 0
  (.loop
  (.seq (.seq (.reg [⟨(some 6), none, .mv (t 5)⟩, ⟨(some 7), none, .mv (t 0)⟩, ⟨(some 8), none, .len (t 7)⟩, ⟨(some 9), none, .bin .lss (t 6) (t 8)⟩, ⟨(some 10), none, .mv (t 9)⟩, ⟨(some 11), (some (10, true)), .mv (t 5)⟩, ⟨(some 12), (some (10, true)), .bin .lss (t 11) (k (.int .i64 100))⟩, ⟨(some 13), none, .pick (t 10) (t 12) (k (.bool false))⟩])
  (.cond (t 13)
  .skip
  (.exit 0)))
  (.seq (.block 1
  (.seq (.reg [⟨(some 16), none, .mv (t 0)⟩, ⟨(some 17), none, .mv (t 5)⟩, ⟨(some 18), none, .iaddr 3 (t 16) (t 17)⟩, ⟨(some 19), none, .faddr 1 (t 18)⟩, ⟨(some 20), none, .load false 1 (t 19)⟩, ⟨(some 21), none, .lens (t 20)⟩, ⟨(some 22), none, .bin .gtr (t 21) (k (.int .i64 200))⟩])
  (.cond (t 22)
  (.seq (.reg [⟨(some 4), none, .mv (k (.bool false))⟩])
  .ret)
  .skip)))
  (.reg [⟨(some 14), none, .mv (t 5)⟩, ⟨(some 15), none, .bin .add (t 14) (k (.int .i64 1))⟩, ⟨(some 5), none, .mv (t 15)⟩]))))))
  (.seq (.reg [⟨(some 23), none, .mv (t 0)⟩, ⟨(some 24), none, .len (t 23)⟩, ⟨(some 25), none, .mv (t 1)⟩, ⟨(some 26), none, .bin .leq (t 24) (t 25)⟩, ⟨(some 4), none, .mv (t 26)⟩])
  .ret)))
theorem fn9 : Fn Go.Proofs.Tryd.prog 9 27 [.inl 4] c9 :=
  ⟨⟨_, _, Go.Proofs.Tryd.func9, rfl, by kernel_rfl, Go.Proofs.Tryd.ntmps9, by kernel_rfl, ⟨fun f => imp.contains f, false⟩, by kernel_rfl⟩⟩

def c11 : C :=
  (.seq (.reg [⟨(some 1), none, .box (t 0)⟩, ⟨(some 2), none, .mv (k (.str []))⟩])
  (.seq (.seq (.reg [⟨(some 5), none, .faddr 0 (t 1)⟩, ⟨(some 6), none, .load false 1 (t 5)⟩])
  (.block 0
  (.seq (.reg [⟨(some 8), none, .bin .eql (t 6) (k (.int .i64 2))⟩, ⟨(some 7), none, .mv (t 8)⟩])
  (.cond (t 7)
  (.seq (.reg [⟨(some 9), none, .faddr 2 (t 1)⟩, ⟨(some 10), none, .load false 1 (t 9)⟩, ⟨(some 11), none, .pcall (k (.fn 20 [] [])) [(t 10)]⟩, ⟨(some 2), none, .mv (t 11)⟩])
  .ret)
  (.seq (.reg [⟨(some 13), none, .bin .eql (t 6) (k (.int .i64 4))⟩, ⟨(some 12), none, .mv (t 13)⟩])
  (.cond (t 12)
  (.seq (.reg [⟨(some 14), none, .faddr 2 (t 1)⟩, ⟨(some 15), none, .load false 1 (t 14)⟩, ⟨(some 16), none, .pcall (k (.fn 20 [] [])) [(t 15)]⟩, ⟨(some 17), none, .bin .add (k (.str [64])) (t 16)⟩, ⟨(some 2), none, .mv (t 17)⟩])
  .ret)
  (.seq (.reg [⟨(some 19), none, .bin .eql (t 6) (k (.int .i64 3))⟩, ⟨(some 18), none, .mv (t 19)⟩])
  (.cond (t 18)
  (.seq (.reg [⟨(some 3), none, .mv (k (.str [34]))⟩])
  (.seq (.seq (.reg [⟨(some 4), none, .mv (k (.int .i64 0))⟩])
  (.block 1
  (.loop
  (.seq (.seq (.reg [⟨(some 20), none, .mv (t 4)⟩, ⟨(some 21), none, .faddr 1 (t 1)⟩, ⟨(some 22), none, .load false 1 (t 21)⟩, ⟨(some 23), none, .lens (t 22)⟩, ⟨(some 24), none, .bin .lss (t 20) (t 23)⟩])
  (.cond (t 24)
  .skip
  (.exit 1)))
  (.seq (.block 2
  (.seq (.seq (.reg [⟨(some 27), none, .faddr 1 (t 1)⟩, ⟨(some 28), none, .load false 1 (t 27)⟩, ⟨(some 29), none, .mv (t 4)⟩, ⟨(some 30), none, .idxs (t 28) (t 29)⟩, ⟨(some 31), none, .bin .eql (t 30) (k (.int .u8 34))⟩, ⟨(some 32), none, .mv (t 31)⟩, ⟨(some 33), (some (32, false)), .faddr 1 (t 1)⟩, ⟨(some 34), (some (32, false)), .load false 1 (t 33)⟩, ⟨(some 35), (some (32, false)), .mv (t 4)⟩, ⟨(some 36), (some (32, false)), .idxs (t 34) (t 35)⟩, ⟨(some 37), (some (32, false)), .bin .eql (t 36) (k (.int .u8 92))⟩, ⟨(some 38), none, .pick (t 32) (k (.bool true)) (t 37)⟩])
  (.cond (t 38)
  (.reg [⟨(some 39), none, .mv (t 3)⟩, ⟨(some 40), none, .bin .add (t 39) (k (.str [92]))⟩, ⟨(some 3), none, .mv (t 40)⟩])
  .skip))
  (.reg [⟨(some 41), none, .mv (t 3)⟩, ⟨(some 42), none, .faddr 1 (t 1)⟩, ⟨(some 43), none, .load false 1 (t 42)⟩, ⟨(some 44), none, .mv (t 4)⟩, ⟨(some 45), none, .mv (t 4)⟩, ⟨(some 46), none, .bin .add (t 45) (k (.int .i64 1))⟩, ⟨(some 47), none, .subs (t 43) (some (t 44)) (some (t 46))⟩, ⟨(some 48), none, .bin .add (t 41) (t 47)⟩, ⟨(some 3), none, .mv (t 48)⟩])))
  (.reg [⟨(some 25), none, .mv (t 4)⟩, ⟨(some 26), none, .bin .add (t 25) (k (.int .i64 1))⟩, ⟨(some 4), none, .mv (t 26)⟩]))))))
  (.seq (.reg [⟨(some 49), none, .mv (t 3)⟩, ⟨(some 50), none, .bin .add (t 49) (k (.str [34]))⟩, ⟨(some 2), none, .mv (t 50)⟩])
  .ret)))
  .skip))))))))
  (.seq (.reg [⟨(some 51), none, .faddr 1 (t 1)⟩, ⟨(some 52), none, .load false 1 (t 51)⟩, ⟨(some 2), none, .mv (t 52)⟩])
  .ret)))
theorem fn11 : Fn Go.Proofs.Tryd.prog 11 53 [.inl 2] c11 :=
  ⟨⟨_, _, Go.Proofs.Tryd.func11, rfl, by kernel_rfl, Go.Proofs.Tryd.ntmps11, by kernel_rfl, ⟨fun f => imp.contains f, false⟩, by kernel_rfl⟩⟩

def c13 : C :=
  (.seq (.reg [⟨(some 4), none, .mv (k (.bool false))⟩])
  (.seq (.seq (.reg [⟨(some 6), none, .mv (t 0)⟩, ⟨(some 7), none, .len (t 6)⟩, ⟨(some 8), none, .mv (t 1)⟩, ⟨(some 9), none, .len (t 8)⟩, ⟨(some 10), none, .bin .neq (t 7) (t 9)⟩])
  (.cond (t 10)
  (.seq (.reg [⟨(some 4), none, .mv (k (.bool false))⟩])
  .ret)
  .skip))
  (.seq (.seq (.reg [⟨(some 5), none, .mv (k (.int .i64 0))⟩])
  (.block 0
  (.loop
  (.seq (.seq (.reg [⟨(some 11), none, .mv (t 5)⟩, ⟨(some 12), none, .mv (t 0)⟩, ⟨(some 13), none, .len (t 12)⟩, ⟨(some 14), none, .bin .lss (t 11) (t 13)⟩])
  (.cond (t 14)
  .skip
  (.exit 0)))
  (.seq (.block 1
  (.seq (.draw 0 [(⟨(some 17), none, .mv (t 0)⟩, []), (⟨(some 18), none, .mv (t 5)⟩, []), (⟨(some 19), none, .iaddr 3 (t 17) (t 18)⟩, []), (⟨(some 20), none, .load true 3 (t 19)⟩, []), (⟨(some 21), none, .mv (t 1)⟩, []), (⟨(some 22), none, .mv (t 5)⟩, []), (⟨(some 23), none, .iaddr 3 (t 21) (t 22)⟩, []), (⟨(some 24), none, .load true 3 (t 23)⟩, []), (⟨(some 25), none, .eqa [.int, .str, .int] true (t 20) (t 24)⟩, [])])
  (.cond (t 25)
  (.seq (.reg [⟨(some 4), none, .mv (k (.bool false))⟩])
  .ret)
  .skip)))
  (.reg [⟨(some 15), none, .mv (t 5)⟩, ⟨(some 16), none, .bin .add (t 15) (k (.int .i64 1))⟩, ⟨(some 5), none, .mv (t 16)⟩]))))))
  (.seq (.reg [⟨(some 4), none, .mv (k (.bool true))⟩])
  .ret))))
theorem fn13 : Fn Go.Proofs.Tryd.prog 13 26 [.inl 4] c13 :=
  ⟨⟨_, _, Go.Proofs.Tryd.func13, rfl, by kernel_rfl, Go.Proofs.Tryd.ntmps13, by kernel_rfl, ⟨fun f => imp.contains f, false⟩, by kernel_rfl⟩⟩

def c14 : C :=
  (.seq (.reg [⟨(some 2), none, .mv (k .nils)⟩, ⟨(some 3), none, .mv (k (.int .i64 0))⟩, ⟨(some 4), none, .mv (k (.int .i64 0))⟩])
  (.seq (.seq (.reg [⟨(some 10), none, .mv (t 0)⟩, ⟨(some 11), none, .lens (t 10)⟩, ⟨(some 12), none, .bin .gtr (t 11) (k (.int .i64 4096))⟩])
  (.cond (t 12)
  (.seq (.reg [⟨(some 2), none, .mv (k .nils)⟩, ⟨(some 3), none, .mv (k (.int .i64 0))⟩, ⟨(some 4), none, .mv (k (.int .i64 3))⟩])
  .ret)
  .skip))
  (.seq (.reg [⟨(some 5), none, .mv (k .nils)⟩])
  (.seq (.seq (.reg [⟨(some 6), none, .mv (k (.int .i64 0))⟩])
  (.block 0
  (.loop
  (.seq (.seq (.reg [⟨(some 13), none, .mv (t 6)⟩, ⟨(some 14), none, .mv (t 0)⟩, ⟨(some 15), none, .lens (t 14)⟩, ⟨(some 16), none, .bin .lss (t 13) (t 15)⟩])
  (.cond (t 16)
  .skip
  (.exit 0)))
  (.block 1
  (.seq (.seq (.reg [⟨(some 17), none, .mv (t 0)⟩, ⟨(some 18), none, .mv (t 6)⟩, ⟨(some 19), none, .idxs (t 17) (t 18)⟩, ⟨(some 20), none, .bin .eql (t 19) (k (.int .u8 32))⟩, ⟨(some 21), none, .mv (t 20)⟩, ⟨(some 22), (some (21, false)), .mv (t 0)⟩, ⟨(some 23), (some (21, false)), .mv (t 6)⟩, ⟨(some 24), (some (21, false)), .idxs (t 22) (t 23)⟩, ⟨(some 25), (some (21, false)), .bin .eql (t 24) (k (.int .u8 10))⟩, ⟨(some 26), none, .pick (t 21) (k (.bool true)) (t 25)⟩])
  (.cond (t 26)
  (.seq (.reg [⟨(some 27), none, .mv (t 6)⟩, ⟨(some 28), none, .bin .add (t 27) (k (.int .i64 1))⟩, ⟨(some 6), none, .mv (t 28)⟩])
  (.exit 1))
  .skip))
  (.seq (.seq (.reg [⟨(some 29), none, .mv (t 0)⟩, ⟨(some 30), none, .mv (t 6)⟩, ⟨(some 31), none, .idxs (t 29) (t 30)⟩, ⟨(some 32), none, .bin .eql (t 31) (k (.int .u8 35))⟩])
  (.cond (t 32)
  (.seq (.block 2
  (.loop
  (.seq (.seq (.reg [⟨(some 33), none, .mv (t 6)⟩, ⟨(some 34), none, .mv (t 0)⟩, ⟨(some 35), none, .lens (t 34)⟩, ⟨(some 36), none, .bin .lss (t 33) (t 35)⟩, ⟨(some 37), none, .mv (t 36)⟩, ⟨(some 38), (some (37, true)), .mv (t 0)⟩, ⟨(some 39), (some (37, true)), .mv (t 6)⟩, ⟨(some 40), (some (37, true)), .idxs (t 38) (t 39)⟩, ⟨(some 41), (some (37, true)), .bin .neq (t 40) (k (.int .u8 10))⟩, ⟨(some 42), none, .pick (t 37) (t 41) (k (.bool false))⟩])
  (.cond (t 42)
  .skip
  (.exit 2)))
  (.block 3
  (.reg [⟨(some 43), none, .mv (t 6)⟩, ⟨(some 44), none, .bin .add (t 43) (k (.int .i64 1))⟩, ⟨(some 6), none, .mv (t 44)⟩])))))
  (.exit 1))
  .skip))
  (.seq (.reg [⟨(some 45), none, .mv (t 0)⟩, ⟨(some 46), none, .mv (t 6)⟩, ⟨(some 47), none, .subs (t 45) (some (t 46)) none⟩, ⟨(some 48), none, .pcall (k (.fn 23 [] [])) [(t 47)]⟩, ⟨(some 7), none, .mv (t 48)⟩])
  (.seq (.reg [⟨(some 50), none, .mv (t 0)⟩, ⟨(some 51), none, .mv (t 6)⟩, ⟨(some 52), none, .mv (t 6)⟩, ⟨(some 53), none, .mv (t 7)⟩, ⟨(some 54), none, .bin .add (t 52) (t 53)⟩, ⟨(some 55), none, .subs (t 50) (some (t 51)) (some (t 54))⟩, ⟨(some 56), none, .pcall (k (.fn 24 [] [])) [(t 55)]⟩, ⟨(some 49), none, .mv (t 56)⟩, ⟨(some 57), none, .ext 0 (t 49)⟩, ⟨(some 58), none, .ext 1 (t 49)⟩, ⟨(some 8), none, .alloc [(.int .i64 0), (.str []), (.int .i64 0)]⟩, ⟨none, none, .store 3 (t 8) (t 57)⟩, ⟨(some 9), none, .mv (t 58)⟩])
  (.seq (.seq (.reg [⟨(some 59), none, .mv (t 7)⟩, ⟨(some 60), none, .bin .eql (t 59) (k (.int .i64 0))⟩, ⟨(some 61), none, .mv (t 60)⟩, ⟨(some 62), (some (61, false)), .mv (t 9)⟩, ⟨(some 63), (some (61, false)), .un .not (t 62)⟩, ⟨(some 64), none, .pick (t 61) (k (.bool true)) (t 63)⟩])
  (.cond (t 64)
  (.seq (.reg [⟨(some 65), none, .mv (t 6)⟩, ⟨(some 2), none, .mv (k .nils)⟩, ⟨(some 3), none, .mv (t 65)⟩, ⟨(some 4), none, .mv (k (.int .i64 2))⟩])
  .ret)
  .skip))
  (.seq (.seq (.reg [⟨(some 66), none, .mv (t 5)⟩, ⟨(some 67), none, .len (t 66)⟩, ⟨(some 68), none, .bin .eql (t 67) (k (.int .i64 600))⟩])
  (.cond (t 68)
  (.seq (.reg [⟨(some 69), none, .mv (t 6)⟩, ⟨(some 2), none, .mv (k .nils)⟩, ⟨(some 3), none, .mv (t 69)⟩, ⟨(some 4), none, .mv (k (.int .i64 13))⟩])
  .ret)
  .skip))
  (.seq (.reg [⟨(some 70), none, .mv (t 5)⟩, ⟨(some 71), none, .load true 3 (t 8)⟩, ⟨(some 72), none, .bsl 3 [(t 71)]⟩, ⟨(some 73), none, .app false 3 32 (t 70) (t 72)⟩, ⟨(some 5), none, .mv (t 73)⟩])
  (.reg [⟨(some 74), none, .mv (t 6)⟩, ⟨(some 75), none, .mv (t 7)⟩, ⟨(some 76), none, .bin .add (t 74) (t 75)⟩, ⟨(some 6), none, .mv (t 76)⟩])))))))))))))
  (.seq (.reg [⟨(some 77), none, .mv (t 5)⟩, ⟨(some 2), none, .mv (t 77)⟩, ⟨(some 3), none, .mv (k (.int .i64 0))⟩, ⟨(some 4), none, .mv (k (.int .i64 0))⟩])
  .ret)))))
theorem fn14 : Fn Go.Proofs.Tryd.prog 14 78 [.inl 2, .inl 3, .inl 4] c14 :=
  ⟨⟨_, _, Go.Proofs.Tryd.func14, rfl, by kernel_rfl, Go.Proofs.Tryd.ntmps14, by kernel_rfl, ⟨fun f => imp.contains f, false⟩, by kernel_rfl⟩⟩

def c18 : C :=
  (.seq (.reg [⟨(some 2), none, .mv (k (.bool false))⟩])
  (.seq (.seq (.reg [⟨(some 3), none, .mv (k (.int .i64 0))⟩])
  (.block 0
  (.loop
  (.seq (.seq (.reg [⟨(some 4), none, .mv (t 3)⟩, ⟨(some 5), none, .mv (t 0)⟩, ⟨(some 6), none, .lens (t 5)⟩, ⟨(some 7), none, .bin .lss (t 4) (t 6)⟩])
  (.cond (t 7)
  .skip
  (.exit 0)))
  (.seq (.block 1
  (.seq (.reg [⟨(some 10), none, .mv (t 0)⟩, ⟨(some 11), none, .mv (t 3)⟩, ⟨(some 12), none, .idxs (t 10) (t 11)⟩, ⟨(some 13), none, .pcall (k (.fn 35 [] [])) [(t 12)]⟩, ⟨(some 14), none, .un .not (t 13)⟩, ⟨(some 15), none, .mv (t 14)⟩, ⟨(some 16), (some (15, true)), .mv (t 3)⟩, ⟨(some 17), (some (15, true)), .bin .eql (t 16) (k (.int .i64 0))⟩, ⟨(some 18), (some (15, true)), .mv (t 17)⟩, ⟨(some 19), (some (18, false)), .mv (t 0)⟩, ⟨(some 20), (some (18, false)), .mv (t 3)⟩, ⟨(some 21), (some (18, false)), .idxs (t 19) (t 20)⟩, ⟨(some 22), (some (18, false)), .pcall (k (.fn 36 [] [])) [(t 21)]⟩, ⟨(some 23), (some (18, false)), .un .not (t 22)⟩, ⟨(some 24), (some (18, false)), .mv (t 23)⟩, ⟨(some 25), (some (24, true)), .mv (t 0)⟩, ⟨(some 26), (some (24, true)), .mv (t 3)⟩, ⟨(some 27), (some (24, true)), .idxs (t 25) (t 26)⟩, ⟨(some 28), (some (24, true)), .bin .neq (t 27) (k (.int .u8 95))⟩, ⟨(some 29), (some (18, false)), .pick (t 24) (t 28) (k (.bool false))⟩, ⟨(some 30), (some (15, true)), .pick (t 18) (k (.bool true)) (t 29)⟩, ⟨(some 31), none, .pick (t 15) (t 30) (k (.bool false))⟩])
  (.cond (t 31)
  (.seq (.reg [⟨(some 2), none, .mv (k (.bool false))⟩])
  .ret)
  .skip)))
  (.reg [⟨(some 8), none, .mv (t 3)⟩, ⟨(some 9), none, .bin .add (t 8) (k (.int .i64 1))⟩, ⟨(some 3), none, .mv (t 9)⟩]))))))
  (.seq (.reg [⟨(some 32), none, .mv (t 0)⟩, ⟨(some 33), none, .lens (t 32)⟩, ⟨(some 34), none, .bin .gtr (t 33) (k (.int .i64 0))⟩, ⟨(some 35), none, .mv (t 34)⟩, ⟨(some 36), (some (35, true)), .mv (t 0)⟩, ⟨(some 37), (some (35, true)), .lens (t 36)⟩, ⟨(some 38), (some (35, true)), .bin .leq (t 37) (k (.int .i64 64))⟩, ⟨(some 39), none, .pick (t 35) (t 38) (k (.bool false))⟩, ⟨(some 2), none, .mv (t 39)⟩])
  .ret)))
theorem fn18 : Fn Go.Proofs.Tryd.prog 18 40 [.inl 2] c18 :=
  ⟨⟨_, _, Go.Proofs.Tryd.func18, rfl, by kernel_rfl, Go.Proofs.Tryd.ntmps18, by kernel_rfl, ⟨fun f => imp.contains f, false⟩, by kernel_rfl⟩⟩

def c19 : C :=
  (.seq (.reg [⟨(some 2), none, .mv (k (.bool false))⟩])
  (.seq (.reg [⟨(some 5), none, .pcall (k (.fn 37 [] [])) []⟩, ⟨(some 3), none, .mv (t 5)⟩])
  (.seq (.seq (.reg [⟨(some 4), none, .mv (k (.int .i64 0))⟩])
  (.block 0
  (.loop
  (.seq (.seq (.reg [⟨(some 6), none, .mv (t 4)⟩, ⟨(some 7), none, .mv (t 3)⟩, ⟨(some 8), none, .len (t 7)⟩, ⟨(some 9), none, .bin .lss (t 6) (t 8)⟩])
  (.cond (t 9)
  .skip
  (.exit 0)))
  (.seq (.block 1
  (.seq (.reg [⟨(some 12), none, .mv (t 3)⟩, ⟨(some 13), none, .mv (t 4)⟩, ⟨(some 14), none, .iaddr 1 (t 12) (t 13)⟩, ⟨(some 15), none, .load false 1 (t 14)⟩, ⟨(some 16), none, .mv (t 0)⟩, ⟨(some 17), none, .bin .eql (t 15) (t 16)⟩])
  (.cond (t 17)
  (.seq (.reg [⟨(some 2), none, .mv (k (.bool true))⟩])
  .ret)
  .skip)))
  (.reg [⟨(some 10), none, .mv (t 4)⟩, ⟨(some 11), none, .bin .add (t 10) (k (.int .i64 1))⟩, ⟨(some 4), none, .mv (t 11)⟩]))))))
  (.seq (.reg [⟨(some 2), none, .mv (k (.bool false))⟩])
  .ret))))
theorem fn19 : Fn Go.Proofs.Tryd.prog 19 18 [.inl 2] c19 :=
  ⟨⟨_, _, Go.Proofs.Tryd.func19, rfl, by kernel_rfl, Go.Proofs.Tryd.ntmps19, by kernel_rfl, ⟨fun f => imp.contains f, false⟩, by kernel_rfl⟩⟩

def c22 : C :=
  (.seq (.reg [⟨(some 4), none, .alloc [(.int .i64 0), (.str []), (.int .i64 0)]⟩, ⟨(some 5), none, .mv (k (.int .i64 0))⟩])
  (.seq (.reg [⟨(some 16), none, .mv (t 0)⟩, ⟨(some 17), none, .mv (t 1)⟩, ⟨(some 18), none, .idxs (t 16) (t 17)⟩, ⟨(some 6), none, .mv (t 18)⟩])
  (.seq (.block 0
  (.seq (.reg [⟨(some 20), none, .mv (t 6)⟩, ⟨(some 21), none, .bin .geq (t 20) (k (.int .u8 97))⟩, ⟨(some 22), none, .mv (t 21)⟩, ⟨(some 23), (some (22, true)), .mv (t 6)⟩, ⟨(some 24), (some (22, true)), .bin .leq (t 23) (k (.int .u8 122))⟩, ⟨(some 25), none, .pick (t 22) (t 24) (k (.bool false))⟩, ⟨(some 19), none, .mv (t 25)⟩])
  (.cond (t 19)
  (.seq (.reg [⟨(some 26), none, .mv (t 0)⟩, ⟨(some 27), none, .mv (t 1)⟩, ⟨(some 28), none, .pcall (k (.fn 25 [] [])) [(t 26), (t 27), (k (.fn 39 [] []))]⟩, ⟨(some 7), none, .mv (t 28)⟩])
  (.seq (.seq (.reg [⟨(some 29), none, .mv (t 7)⟩, ⟨(some 30), none, .bin .gtr (t 29) (k (.int .i64 64))⟩])
  (.cond (t 30)
  (.seq (.reg [⟨(some 31), none, .build [(.int .i64 0), (.str []), (.int .i64 0)] []⟩, ⟨none, none, .store 3 (t 4) (t 31)⟩, ⟨(some 5), none, .mv (k (.int .i64 0))⟩])
  .ret)
  .skip))
  (.seq (.reg [⟨(some 32), none, .mv (t 0)⟩, ⟨(some 33), none, .mv (t 1)⟩, ⟨(some 34), none, .mv (t 1)⟩, ⟨(some 35), none, .mv (t 7)⟩, ⟨(some 36), none, .bin .add (t 34) (t 35)⟩, ⟨(some 37), none, .subs (t 32) (some (t 33)) (some (t 36))⟩, ⟨(some 38), none, .build [(.int .i64 0), (.str []), (.int .i64 0)] [(0, 1, (k (.int .i64 1))), (1, 1, (t 37))]⟩, ⟨(some 39), none, .mv (t 7)⟩, ⟨none, none, .store 3 (t 4) (t 38)⟩, ⟨(some 5), none, .mv (t 39)⟩])
  .ret)))
  (.seq (.reg [⟨(some 41), none, .mv (t 6)⟩, ⟨(some 42), none, .pcall (k (.fn 28 [] [])) [(t 41)]⟩, ⟨(some 40), none, .mv (t 42)⟩])
  (.cond (t 40)
  (.seq (.reg [⟨(some 44), none, .mv (t 0)⟩, ⟨(some 45), none, .mv (t 1)⟩, ⟨(some 46), none, .pcall (k (.fn 40 [] [])) [(t 44), (t 45), (k (.int .i64 9223372036854775807))]⟩, ⟨(some 43), none, .mv (t 46)⟩, ⟨(some 47), none, .ext 0 (t 43)⟩, ⟨(some 48), none, .ext 1 (t 43)⟩, ⟨(some 8), none, .mv (t 47)⟩, ⟨(some 9), none, .mv (t 48)⟩])
  (.seq (.reg [⟨(some 49), none, .mv (t 8)⟩, ⟨(some 50), none, .build [(.int .i64 0), (.str []), (.int .i64 0)] [(0, 1, (k (.int .i64 2))), (2, 1, (t 49))]⟩, ⟨(some 51), none, .mv (t 9)⟩, ⟨none, none, .store 3 (t 4) (t 50)⟩, ⟨(some 5), none, .mv (t 51)⟩])
  .ret))
  (.seq (.reg [⟨(some 53), none, .mv (t 6)⟩, ⟨(some 54), none, .bin .eql (t 53) (k (.int .u8 64))⟩, ⟨(some 52), none, .mv (t 54)⟩])
  (.cond (t 52)
  (.seq (.reg [⟨(some 56), none, .mv (t 0)⟩, ⟨(some 57), none, .mv (t 1)⟩, ⟨(some 58), none, .bin .add (t 57) (k (.int .i64 1))⟩, ⟨(some 59), none, .pcall (k (.fn 40 [] [])) [(t 56), (t 58), (k (.int .i64 1099511627776))]⟩, ⟨(some 55), none, .mv (t 59)⟩, ⟨(some 60), none, .ext 0 (t 55)⟩, ⟨(some 61), none, .ext 1 (t 55)⟩, ⟨(some 10), none, .mv (t 60)⟩, ⟨(some 11), none, .mv (t 61)⟩])
  (.seq (.seq (.reg [⟨(some 62), none, .mv (t 11)⟩, ⟨(some 63), none, .bin .eql (t 62) (k (.int .i64 0))⟩])
  (.cond (t 63)
  (.seq (.reg [⟨(some 64), none, .build [(.int .i64 0), (.str []), (.int .i64 0)] []⟩, ⟨none, none, .store 3 (t 4) (t 64)⟩, ⟨(some 5), none, .mv (k (.int .i64 0))⟩])
  .ret)
  .skip))
  (.seq (.reg [⟨(some 65), none, .mv (t 10)⟩, ⟨(some 66), none, .build [(.int .i64 0), (.str []), (.int .i64 0)] [(0, 1, (k (.int .i64 4))), (2, 1, (t 65))]⟩, ⟨(some 67), none, .mv (t 11)⟩, ⟨(some 68), none, .bin .add (t 67) (k (.int .i64 1))⟩, ⟨none, none, .store 3 (t 4) (t 66)⟩, ⟨(some 5), none, .mv (t 68)⟩])
  .ret)))
  (.seq (.reg [⟨(some 70), none, .mv (t 6)⟩, ⟨(some 71), none, .bin .eql (t 70) (k (.int .u8 34))⟩, ⟨(some 69), none, .mv (t 71)⟩])
  (.cond (t 69)
  (.seq (.reg [⟨(some 73), none, .mv (t 0)⟩, ⟨(some 74), none, .mv (t 1)⟩, ⟨(some 75), none, .pcall (k (.fn 41 [] [])) [(t 73), (t 74)]⟩, ⟨(some 72), none, .mv (t 75)⟩, ⟨(some 76), none, .ext 0 (t 72)⟩, ⟨(some 77), none, .ext 1 (t 72)⟩, ⟨(some 12), none, .mv (t 76)⟩, ⟨(some 13), none, .mv (t 77)⟩])
  (.seq (.reg [⟨(some 78), none, .mv (t 12)⟩, ⟨(some 79), none, .build [(.int .i64 0), (.str []), (.int .i64 0)] [(0, 1, (k (.int .i64 3))), (1, 1, (t 78))]⟩, ⟨(some 80), none, .mv (t 13)⟩, ⟨none, none, .store 3 (t 4) (t 79)⟩, ⟨(some 5), none, .mv (t 80)⟩])
  .ret))
  .skip)))))))))
  (.seq (.seq (.reg [⟨(some 81), none, .pcall (k (.fn 31 [] [])) []⟩, ⟨(some 82), none, .len (t 81)⟩, ⟨(some 83), none, .mv (k (.int .i64 0))⟩])
  (.block 1
  (.loop
  (.seq (.reg [⟨(some 84), none, .bin .lss (t 83) (t 82)⟩])
  (.seq (.cond (t 84)
  .skip
  (.exit 1))
  (.seq (.block 2
  (.seq (.reg [⟨(some 85), none, .iaddr 1 (t 81) (t 83)⟩, ⟨(some 86), none, .load false 1 (t 85)⟩, ⟨(some 15), none, .mv (t 86)⟩])
  (.seq (.reg [⟨(some 87), none, .mv (t 0)⟩, ⟨(some 88), none, .mv (t 1)⟩, ⟨(some 89), none, .subs (t 87) (some (t 88)) none⟩, ⟨(some 90), none, .mv (t 15)⟩, ⟨(some 91), none, .pcall (k (.fn 42 [] [])) [(t 89), (t 90)]⟩])
  (.cond (t 91)
  (.seq (.reg [⟨(some 92), none, .mv (t 15)⟩, ⟨(some 93), none, .build [(.int .i64 0), (.str []), (.int .i64 0)] [(0, 1, (k (.int .i64 5))), (1, 1, (t 92))]⟩, ⟨(some 94), none, .mv (t 15)⟩, ⟨(some 95), none, .lens (t 94)⟩, ⟨none, none, .store 3 (t 4) (t 93)⟩, ⟨(some 5), none, .mv (t 95)⟩])
  .ret)
  .skip))))
  (.reg [⟨(some 96), none, .bin .add (t 83) (k (.int .i64 1))⟩, ⟨(some 83), none, .mv (t 96)⟩])))))))
  (.seq (.reg [⟨(some 97), none, .build [(.int .i64 0), (.str []), (.int .i64 0)] []⟩, ⟨none, none, .store 3 (t 4) (t 97)⟩, ⟨(some 5), none, .mv (k (.int .i64 0))⟩])
  .ret)))))
theorem fn22 : Fn Go.Proofs.Tryd.prog 22 98 [.inr (4, true, 3), .inl 5] c22 :=
  ⟨⟨_, _, Go.Proofs.Tryd.func22, rfl, by kernel_rfl, Go.Proofs.Tryd.ntmps22, by kernel_rfl, ⟨fun f => imp.contains f, false⟩, by kernel_rfl⟩⟩

def c23 : C :=
  (.seq (.reg [⟨(some 2), none, .mv (k (.int .i64 0))⟩])
  (.seq (.reg [⟨(some 3), none, .mv (k (.int .i64 1))⟩])
  (.seq (.block 0
  (.seq (.reg [⟨(some 13), none, .mv (t 0)⟩, ⟨(some 14), none, .idxs (t 13) (k (.int .i64 0))⟩, ⟨(some 15), none, .pcall (k (.fn 35 [] [])) [(t 14)]⟩, ⟨(some 12), none, .mv (t 15)⟩])
  (.cond (t 12)
  (.block 1
  (.loop
  (.seq (.seq (.reg [⟨(some 16), none, .mv (t 3)⟩, ⟨(some 17), none, .mv (t 0)⟩, ⟨(some 18), none, .lens (t 17)⟩, ⟨(some 19), none, .bin .lss (t 16) (t 18)⟩, ⟨(some 20), none, .mv (t 19)⟩, ⟨(some 21), (some (20, true)), .mv (t 0)⟩, ⟨(some 22), (some (20, true)), .mv (t 3)⟩, ⟨(some 23), (some (20, true)), .idxs (t 21) (t 22)⟩, ⟨(some 24), (some (20, true)), .pcall (k (.fn 35 [] [])) [(t 23)]⟩, ⟨(some 25), (some (20, true)), .mv (t 24)⟩, ⟨(some 26), (some (25, false)), .mv (t 0)⟩, ⟨(some 27), (some (25, false)), .mv (t 3)⟩, ⟨(some 28), (some (25, false)), .idxs (t 26) (t 27)⟩, ⟨(some 29), (some (25, false)), .pcall (k (.fn 36 [] [])) [(t 28)]⟩, ⟨(some 30), (some (20, true)), .pick (t 25) (k (.bool true)) (t 29)⟩, ⟨(some 31), (some (20, true)), .mv (t 30)⟩, ⟨(some 32), (some (31, false)), .mv (t 0)⟩, ⟨(some 33), (some (31, false)), .mv (t 3)⟩, ⟨(some 34), (some (31, false)), .idxs (t 32) (t 33)⟩, ⟨(some 35), (some (31, false)), .bin .eql (t 34) (k (.int .u8 95))⟩, ⟨(some 36), (some (20, true)), .pick (t 31) (k (.bool true)) (t 35)⟩, ⟨(some 37), none, .pick (t 20) (t 36) (k (.bool false))⟩])
  (.cond (t 37)
  .skip
  (.exit 1)))
  (.block 2
  (.reg [⟨(some 38), none, .mv (t 3)⟩, ⟨(some 39), none, .bin .add (t 38) (k (.int .i64 1))⟩, ⟨(some 3), none, .mv (t 39)⟩])))))
  (.seq (.reg [⟨(some 41), none, .mv (t 0)⟩, ⟨(some 42), none, .idxs (t 41) (k (.int .i64 0))⟩, ⟨(some 43), none, .pcall (k (.fn 36 [] [])) [(t 42)]⟩, ⟨(some 44), none, .mv (t 43)⟩, ⟨(some 45), (some (44, false)), .mv (t 0)⟩, ⟨(some 46), (some (44, false)), .idxs (t 45) (k (.int .i64 0))⟩, ⟨(some 47), (some (44, false)), .bin .eql (t 46) (k (.int .u8 64))⟩, ⟨(some 48), none, .pick (t 44) (k (.bool true)) (t 47)⟩, ⟨(some 40), none, .mv (t 48)⟩])
  (.cond (t 40)
  (.seq (.block 3
  (.loop
  (.seq (.seq (.reg [⟨(some 49), none, .mv (t 3)⟩, ⟨(some 50), none, .mv (t 0)⟩, ⟨(some 51), none, .lens (t 50)⟩, ⟨(some 52), none, .bin .lss (t 49) (t 51)⟩, ⟨(some 53), none, .mv (t 52)⟩, ⟨(some 54), (some (53, true)), .mv (t 0)⟩, ⟨(some 55), (some (53, true)), .mv (t 3)⟩, ⟨(some 56), (some (53, true)), .idxs (t 54) (t 55)⟩, ⟨(some 57), (some (53, true)), .pcall (k (.fn 36 [] [])) [(t 56)]⟩, ⟨(some 58), none, .pick (t 53) (t 57) (k (.bool false))⟩])
  (.cond (t 58)
  .skip
  (.exit 3)))
  (.block 4
  (.reg [⟨(some 59), none, .mv (t 3)⟩, ⟨(some 60), none, .bin .add (t 59) (k (.int .i64 1))⟩, ⟨(some 3), none, .mv (t 60)⟩])))))
  (.seq (.reg [⟨(some 61), none, .mv (t 3)⟩, ⟨(some 62), none, .mv (t 0)⟩, ⟨(some 63), none, .lens (t 62)⟩, ⟨(some 64), none, .bin .lss (t 61) (t 63)⟩, ⟨(some 65), none, .mv (t 64)⟩, ⟨(some 66), (some (65, true)), .mv (t 0)⟩, ⟨(some 67), (some (65, true)), .mv (t 3)⟩, ⟨(some 68), (some (65, true)), .idxs (t 66) (t 67)⟩, ⟨(some 69), (some (65, true)), .pcall (k (.fn 35 [] [])) [(t 68)]⟩, ⟨(some 70), (some (65, true)), .mv (t 69)⟩, ⟨(some 71), (some (70, false)), .mv (t 0)⟩, ⟨(some 72), (some (70, false)), .mv (t 3)⟩, ⟨(some 73), (some (70, false)), .idxs (t 71) (t 72)⟩, ⟨(some 74), (some (70, false)), .bin .eql (t 73) (k (.int .u8 95))⟩, ⟨(some 75), (some (65, true)), .pick (t 70) (k (.bool true)) (t 74)⟩, ⟨(some 76), none, .pick (t 65) (t 75) (k (.bool false))⟩])
  (.cond (t 76)
  (.seq (.reg [⟨(some 2), none, .mv (k (.int .i64 0))⟩])
  .ret)
  .skip)))
  (.seq (.reg [⟨(some 78), none, .mv (t 0)⟩, ⟨(some 79), none, .idxs (t 78) (k (.int .i64 0))⟩, ⟨(some 80), none, .bin .eql (t 79) (k (.int .u8 34))⟩, ⟨(some 77), none, .mv (t 80)⟩])
  (.cond (t 77)
  (.seq (.block 5
  (.loop
  (.seq (.seq (.reg [⟨(some 81), none, .mv (t 3)⟩, ⟨(some 82), none, .mv (t 0)⟩, ⟨(some 83), none, .lens (t 82)⟩, ⟨(some 84), none, .bin .lss (t 81) (t 83)⟩, ⟨(some 85), none, .mv (t 84)⟩, ⟨(some 86), (some (85, true)), .mv (t 0)⟩, ⟨(some 87), (some (85, true)), .mv (t 3)⟩, ⟨(some 88), (some (85, true)), .idxs (t 86) (t 87)⟩, ⟨(some 89), (some (85, true)), .bin .neq (t 88) (k (.int .u8 34))⟩, ⟨(some 90), none, .pick (t 85) (t 89) (k (.bool false))⟩])
  (.cond (t 90)
  .skip
  (.exit 5)))
  (.block 6
  (.seq (.seq (.reg [⟨(some 91), none, .mv (t 0)⟩, ⟨(some 92), none, .mv (t 3)⟩, ⟨(some 93), none, .idxs (t 91) (t 92)⟩, ⟨(some 94), none, .bin .eql (t 93) (k (.int .u8 92))⟩])
  (.cond (t 94)
  (.reg [⟨(some 95), none, .mv (t 3)⟩, ⟨(some 96), none, .bin .add (t 95) (k (.int .i64 1))⟩, ⟨(some 3), none, .mv (t 96)⟩])
  .skip))
  (.reg [⟨(some 97), none, .mv (t 3)⟩, ⟨(some 98), none, .bin .add (t 97) (k (.int .i64 1))⟩, ⟨(some 3), none, .mv (t 98)⟩]))))))
  (.reg [⟨(some 99), none, .mv (t 3)⟩, ⟨(some 100), none, .bin .add (t 99) (k (.int .i64 1))⟩, ⟨(some 3), none, .mv (t 100)⟩]))
  (.seq (.reg [⟨(some 4), none, .mv (t 0)⟩, ⟨(some 5), none, .lens (t 4)⟩, ⟨(some 6), none, .bin .gtr (t 5) (k (.int .i64 1))⟩, ⟨(some 7), none, .mv (t 6)⟩, ⟨(some 8), (some (7, true)), .mv (t 0)⟩, ⟨(some 9), (some (7, true)), .subs (t 8) none (some (k (.int .i64 2)))⟩, ⟨(some 10), (some (7, true)), .pcall (k (.fn 19 [] [])) [(t 9)]⟩, ⟨(some 11), none, .pick (t 7) (t 10) (k (.bool false))⟩])
  (.cond (t 11)
  (.reg [⟨(some 3), none, .mv (k (.int .i64 2))⟩])
  .skip)))))))))
  (.seq (.seq (.reg [⟨(some 101), none, .mv (t 3)⟩, ⟨(some 102), none, .mv (t 0)⟩, ⟨(some 103), none, .lens (t 102)⟩, ⟨(some 104), none, .bin .gtr (t 101) (t 103)⟩])
  (.cond (t 104)
  (.seq (.reg [⟨(some 2), none, .mv (k (.int .i64 0))⟩])
  .ret)
  .skip))
  (.seq (.reg [⟨(some 105), none, .mv (t 3)⟩, ⟨(some 2), none, .mv (t 105)⟩])
  .ret)))))
theorem fn23 : Fn Go.Proofs.Tryd.prog 23 106 [.inl 2] c23 :=
  ⟨⟨_, _, Go.Proofs.Tryd.func23, rfl, by kernel_rfl, Go.Proofs.Tryd.ntmps23, by kernel_rfl, ⟨fun f => imp.contains f, false⟩, by kernel_rfl⟩⟩

def c24 : C :=
  (.seq (.reg [⟨(some 2), none, .alloc [(.int .i64 0), (.str []), (.int .i64 0)]⟩, ⟨(some 3), none, .mv (k (.bool false))⟩])
  (.seq (.seq (.reg [⟨(some 8), none, .mv (t 0)⟩, ⟨(some 9), none, .bin .eql (t 8) (k (.str []))⟩])
  (.cond (t 9)
  (.seq (.reg [⟨(some 10), none, .build [(.int .i64 0), (.str []), (.int .i64 0)] []⟩, ⟨none, none, .store 3 (t 2) (t 10)⟩, ⟨(some 3), none, .mv (k (.bool false))⟩])
  .ret)
  .skip))
  (.seq (.seq (.reg [⟨(some 11), none, .mv (t 0)⟩, ⟨(some 12), none, .pcall (k (.fn 18 [] [])) [(t 11)]⟩])
  (.cond (t 12)
  (.seq (.reg [⟨(some 13), none, .mv (t 0)⟩, ⟨(some 14), none, .build [(.int .i64 0), (.str []), (.int .i64 0)] [(0, 1, (k (.int .i64 1))), (1, 1, (t 13))]⟩, ⟨none, none, .store 3 (t 2) (t 14)⟩, ⟨(some 3), none, .mv (k (.bool true))⟩])
  .ret)
  .skip))
  (.seq (.reg [⟨(some 16), none, .mv (t 0)⟩, ⟨(some 17), none, .pcall (k (.fn 43 [] [])) [(t 16), (k (.int .i64 9223372036854775807))]⟩, ⟨(some 15), none, .mv (t 17)⟩, ⟨(some 18), none, .ext 0 (t 15)⟩, ⟨(some 19), none, .ext 1 (t 15)⟩, ⟨(some 4), none, .mv (t 18)⟩, ⟨(some 5), none, .mv (t 19)⟩])
  (.seq (.seq (.reg [⟨(some 20), none, .mv (t 5)⟩])
  (.cond (t 20)
  (.seq (.reg [⟨(some 21), none, .mv (t 4)⟩, ⟨(some 22), none, .build [(.int .i64 0), (.str []), (.int .i64 0)] [(0, 1, (k (.int .i64 2))), (2, 1, (t 21))]⟩, ⟨none, none, .store 3 (t 2) (t 22)⟩, ⟨(some 3), none, .mv (k (.bool true))⟩])
  .ret)
  .skip))
  (.seq (.seq (.reg [⟨(some 23), none, .mv (t 0)⟩, ⟨(some 24), none, .idxs (t 23) (k (.int .i64 0))⟩, ⟨(some 25), none, .bin .eql (t 24) (k (.int .u8 64))⟩])
  (.cond (t 25)
  (.seq (.reg [⟨(some 27), none, .mv (t 0)⟩, ⟨(some 28), none, .subs (t 27) (some (k (.int .i64 1))) none⟩, ⟨(some 29), none, .pcall (k (.fn 43 [] [])) [(t 28), (k (.int .i64 1099511627776))]⟩, ⟨(some 26), none, .mv (t 29)⟩, ⟨(some 30), none, .ext 0 (t 26)⟩, ⟨(some 31), none, .ext 1 (t 26)⟩, ⟨(some 4), none, .mv (t 30)⟩, ⟨(some 5), none, .mv (t 31)⟩])
  (.seq (.reg [⟨(some 32), none, .mv (t 4)⟩, ⟨(some 33), none, .build [(.int .i64 0), (.str []), (.int .i64 0)] [(0, 1, (k (.int .i64 4))), (2, 1, (t 32))]⟩, ⟨(some 34), none, .mv (t 5)⟩, ⟨none, none, .store 3 (t 2) (t 33)⟩, ⟨(some 3), none, .mv (t 34)⟩])
  .ret))
  .skip))
  (.seq (.seq (.reg [⟨(some 35), none, .mv (t 0)⟩, ⟨(some 36), none, .idxs (t 35) (k (.int .i64 0))⟩, ⟨(some 37), none, .bin .eql (t 36) (k (.int .u8 34))⟩])
  (.cond (t 37)
  (.seq (.reg [⟨(some 39), none, .mv (t 0)⟩, ⟨(some 40), none, .pcall (k (.fn 44 [] [])) [(t 39)]⟩, ⟨(some 38), none, .mv (t 40)⟩, ⟨(some 41), none, .ext 0 (t 38)⟩, ⟨(some 42), none, .ext 1 (t 38)⟩, ⟨(some 6), none, .mv (t 41)⟩, ⟨(some 7), none, .mv (t 42)⟩])
  (.seq (.reg [⟨(some 43), none, .mv (t 6)⟩, ⟨(some 44), none, .build [(.int .i64 0), (.str []), (.int .i64 0)] [(0, 1, (k (.int .i64 3))), (1, 1, (t 43))]⟩, ⟨(some 45), none, .mv (t 7)⟩, ⟨none, none, .store 3 (t 2) (t 44)⟩, ⟨(some 3), none, .mv (t 45)⟩])
  .ret))
  .skip))
  (.seq (.reg [⟨(some 46), none, .mv (t 0)⟩, ⟨(some 47), none, .build [(.int .i64 0), (.str []), (.int .i64 0)] [(0, 1, (k (.int .i64 5))), (1, 1, (t 46))]⟩, ⟨(some 48), none, .mv (t 0)⟩, ⟨(some 49), none, .pcall (k (.fn 19 [] [])) [(t 48)]⟩, ⟨none, none, .store 3 (t 2) (t 47)⟩, ⟨(some 3), none, .mv (t 49)⟩])
  .ret))))))))
theorem fn24 : Fn Go.Proofs.Tryd.prog 24 50 [.inr (2, true, 3), .inl 3] c24 :=
  ⟨⟨_, _, Go.Proofs.Tryd.func24, rfl, by kernel_rfl, Go.Proofs.Tryd.ntmps24, by kernel_rfl, ⟨fun f => imp.contains f, false⟩, by kernel_rfl⟩⟩

def c26 : C :=
  (.seq (.reg [⟨(some 2), none, .mv (k (.bool false))⟩])
  (.seq (.reg [⟨(some 3), none, .mv (t 0)⟩, ⟨(some 4), none, .pcall (k (.fn 27 [] [])) [(t 3)]⟩, ⟨(some 5), none, .mv (t 4)⟩, ⟨(some 6), (some (5, false)), .mv (t 0)⟩, ⟨(some 7), (some (5, false)), .pcall (k (.fn 28 [] [])) [(t 6)]⟩, ⟨(some 8), none, .pick (t 5) (k (.bool true)) (t 7)⟩, ⟨(some 2), none, .mv (t 8)⟩])
  .ret))
theorem fn26 : Fn Go.Proofs.Tryd.prog 26 9 [.inl 2] c26 :=
  ⟨⟨_, _, Go.Proofs.Tryd.func26, rfl, by kernel_rfl, Go.Proofs.Tryd.ntmps26, by kernel_rfl, ⟨fun f => imp.contains f, false⟩, by kernel_rfl⟩⟩

def c33 : C :=
  (.seq (.reg [⟨(some 2), none, .mv (k (.str []))⟩])
  (.seq (.reg [⟨(some 5), none, .bsl 1 [(k (.int .u8 34))]⟩, ⟨(some 3), none, .mv (t 5)⟩])
  (.seq (.seq (.reg [⟨(some 6), none, .mv (t 0)⟩, ⟨(some 7), none, .lens (t 6)⟩, ⟨(some 8), none, .mv (k (.int .i64 0))⟩])
  (.block 0
  (.loop
  (.seq (.reg [⟨(some 9), none, .bin .lss (t 8) (t 7)⟩])
  (.seq (.cond (t 9)
  .skip
  (.exit 0))
  (.seq (.block 1
  (.seq (.reg [⟨(some 10), none, .mv (t 8)⟩, ⟨(some 4), none, .mv (t 10)⟩])
  (.seq (.seq (.reg [⟨(some 11), none, .mv (t 0)⟩, ⟨(some 12), none, .mv (t 4)⟩, ⟨(some 13), none, .idxs (t 11) (t 12)⟩, ⟨(some 14), none, .bin .eql (t 13) (k (.int .u8 34))⟩, ⟨(some 15), none, .mv (t 14)⟩, ⟨(some 16), (some (15, false)), .mv (t 0)⟩, ⟨(some 17), (some (15, false)), .mv (t 4)⟩, ⟨(some 18), (some (15, false)), .idxs (t 16) (t 17)⟩, ⟨(some 19), (some (15, false)), .bin .eql (t 18) (k (.int .u8 92))⟩, ⟨(some 20), none, .pick (t 15) (k (.bool true)) (t 19)⟩])
  (.cond (t 20)
  (.reg [⟨(some 21), none, .mv (t 3)⟩, ⟨(some 22), none, .bsl 1 [(k (.int .u8 92))]⟩, ⟨(some 23), none, .app false 1 1 (t 21) (t 22)⟩, ⟨(some 3), none, .mv (t 23)⟩])
  .skip))
  (.reg [⟨(some 24), none, .mv (t 3)⟩, ⟨(some 25), none, .mv (t 0)⟩, ⟨(some 26), none, .mv (t 4)⟩, ⟨(some 27), none, .idxs (t 25) (t 26)⟩, ⟨(some 28), none, .bsl 1 [(t 27)]⟩, ⟨(some 29), none, .app false 1 1 (t 24) (t 28)⟩, ⟨(some 3), none, .mv (t 29)⟩]))))
  (.reg [⟨(some 30), none, .bin .add (t 8) (k (.int .i64 1))⟩, ⟨(some 8), none, .mv (t 30)⟩])))))))
  (.seq (.reg [⟨(some 31), none, .mv (t 3)⟩, ⟨(some 32), none, .bsl 1 [(k (.int .u8 34))]⟩, ⟨(some 33), none, .app false 1 1 (t 31) (t 32)⟩, ⟨(some 34), none, .b2s (t 33)⟩, ⟨(some 2), none, .mv (t 34)⟩])
  .ret))))
theorem fn33 : Fn Go.Proofs.Tryd.prog 33 35 [.inl 2] c33 :=
  ⟨⟨_, _, Go.Proofs.Tryd.func33, rfl, by kernel_rfl, Go.Proofs.Tryd.ntmps33, by kernel_rfl, ⟨fun f => imp.contains f, false⟩, by kernel_rfl⟩⟩

def c35 : C :=
  (.seq (.reg [⟨(some 2), none, .mv (k (.bool false))⟩])
  (.seq (.reg [⟨(some 3), none, .mv (t 0)⟩, ⟨(some 4), none, .bin .geq (t 3) (k (.int .u8 97))⟩, ⟨(some 5), none, .mv (t 4)⟩, ⟨(some 6), (some (5, true)), .mv (t 0)⟩, ⟨(some 7), (some (5, true)), .bin .leq (t 6) (k (.int .u8 122))⟩, ⟨(some 8), none, .pick (t 5) (t 7) (k (.bool false))⟩, ⟨(some 2), none, .mv (t 8)⟩])
  .ret))
theorem fn35 : Fn Go.Proofs.Tryd.prog 35 9 [.inl 2] c35 :=
  ⟨⟨_, _, Go.Proofs.Tryd.func35, rfl, by kernel_rfl, Go.Proofs.Tryd.ntmps35, by kernel_rfl, ⟨fun f => imp.contains f, false⟩, by kernel_rfl⟩⟩

def c36 : C :=
  (.seq (.reg [⟨(some 2), none, .mv (k (.bool false))⟩])
  (.seq (.reg [⟨(some 3), none, .mv (t 0)⟩, ⟨(some 4), none, .bin .geq (t 3) (k (.int .u8 48))⟩, ⟨(some 5), none, .mv (t 4)⟩, ⟨(some 6), (some (5, true)), .mv (t 0)⟩, ⟨(some 7), (some (5, true)), .bin .leq (t 6) (k (.int .u8 57))⟩, ⟨(some 8), none, .pick (t 5) (t 7) (k (.bool false))⟩, ⟨(some 2), none, .mv (t 8)⟩])
  .ret))
theorem fn36 : Fn Go.Proofs.Tryd.prog 36 9 [.inl 2] c36 :=
  ⟨⟨_, _, Go.Proofs.Tryd.func36, rfl, by kernel_rfl, Go.Proofs.Tryd.ntmps36, by kernel_rfl, ⟨fun f => imp.contains f, false⟩, by kernel_rfl⟩⟩

def c41 : C :=
  (.seq (.reg [⟨(some 4), none, .mv (k (.str []))⟩, ⟨(some 5), none, .mv (k (.int .i64 0))⟩])
  (.seq (.reg [⟨(some 6), none, .mv (k .nils)⟩])
  (.seq (.seq (.reg [⟨(some 9), none, .mv (t 1)⟩, ⟨(some 10), none, .bin .add (t 9) (k (.int .i64 1))⟩, ⟨(some 7), none, .mv (t 10)⟩])
  (.block 0
  (.loop
  (.seq (.seq (.reg [⟨(some 11), none, .mv (t 7)⟩, ⟨(some 12), none, .mv (t 0)⟩, ⟨(some 13), none, .lens (t 12)⟩, ⟨(some 14), none, .bin .lss (t 11) (t 13)⟩])
  (.cond (t 14)
  .skip
  (.exit 0)))
  (.seq (.block 1
  (.seq (.reg [⟨(some 17), none, .mv (t 0)⟩, ⟨(some 18), none, .mv (t 7)⟩, ⟨(some 19), none, .idxs (t 17) (t 18)⟩, ⟨(some 8), none, .mv (t 19)⟩])
  (.seq (.block 2
  (.seq (.reg [⟨(some 21), none, .mv (t 8)⟩, ⟨(some 22), none, .bin .eql (t 21) (k (.int .u8 34))⟩, ⟨(some 20), none, .mv (t 22)⟩])
  (.cond (t 20)
  (.seq (.reg [⟨(some 23), none, .mv (t 6)⟩, ⟨(some 24), none, .b2s (t 23)⟩, ⟨(some 25), none, .mv (t 7)⟩, ⟨(some 26), none, .bin .add (t 25) (k (.int .i64 1))⟩, ⟨(some 27), none, .mv (t 1)⟩, ⟨(some 28), none, .bin .sub (t 26) (t 27)⟩, ⟨(some 4), none, .mv (t 24)⟩, ⟨(some 5), none, .mv (t 28)⟩])
  .ret)
  (.seq (.reg [⟨(some 30), none, .mv (t 8)⟩, ⟨(some 31), none, .bin .eql (t 30) (k (.int .u8 92))⟩, ⟨(some 29), none, .mv (t 31)⟩])
  (.cond (t 29)
  (.seq (.reg [⟨(some 32), none, .mv (t 7)⟩, ⟨(some 33), none, .bin .add (t 32) (k (.int .i64 1))⟩, ⟨(some 7), none, .mv (t 33)⟩])
  (.seq (.seq (.reg [⟨(some 34), none, .mv (t 7)⟩, ⟨(some 35), none, .mv (t 0)⟩, ⟨(some 36), none, .lens (t 35)⟩, ⟨(some 37), none, .bin .eql (t 34) (t 36)⟩, ⟨(some 38), none, .mv (t 37)⟩, ⟨(some 39), (some (38, false)), .mv (t 0)⟩, ⟨(some 40), (some (38, false)), .mv (t 7)⟩, ⟨(some 41), (some (38, false)), .idxs (t 39) (t 40)⟩, ⟨(some 42), (some (38, false)), .bin .neq (t 41) (k (.int .u8 34))⟩, ⟨(some 43), (some (38, false)), .mv (t 42)⟩, ⟨(some 44), (some (43, true)), .mv (t 0)⟩, ⟨(some 45), (some (43, true)), .mv (t 7)⟩, ⟨(some 46), (some (43, true)), .idxs (t 44) (t 45)⟩, ⟨(some 47), (some (43, true)), .bin .neq (t 46) (k (.int .u8 92))⟩, ⟨(some 48), (some (38, false)), .pick (t 43) (t 47) (k (.bool false))⟩, ⟨(some 49), none, .pick (t 38) (k (.bool true)) (t 48)⟩])
  (.cond (t 49)
  (.seq (.reg [⟨(some 4), none, .mv (k (.str []))⟩, ⟨(some 5), none, .mv (k (.int .i64 0))⟩])
  .ret)
  .skip))
  (.reg [⟨(some 50), none, .mv (t 0)⟩, ⟨(some 51), none, .mv (t 7)⟩, ⟨(some 52), none, .idxs (t 50) (t 51)⟩, ⟨(some 8), none, .mv (t 52)⟩])))
  (.seq (.reg [⟨(some 54), none, .mv (t 8)⟩, ⟨(some 55), none, .bin .lss (t 54) (k (.int .u8 32))⟩, ⟨(some 56), none, .mv (t 55)⟩, ⟨(some 57), (some (56, false)), .mv (t 8)⟩, ⟨(some 58), (some (56, false)), .bin .gtr (t 57) (k (.int .u8 126))⟩, ⟨(some 59), none, .pick (t 56) (k (.bool true)) (t 58)⟩, ⟨(some 53), none, .mv (t 59)⟩])
  (.cond (t 53)
  (.seq (.reg [⟨(some 4), none, .mv (k (.str []))⟩, ⟨(some 5), none, .mv (k (.int .i64 0))⟩])
  .ret)
  .skip)))))))
  (.seq (.reg [⟨(some 60), none, .mv (t 6)⟩, ⟨(some 61), none, .mv (t 8)⟩, ⟨(some 62), none, .bsl 1 [(t 61)]⟩, ⟨(some 63), none, .app false 1 1 (t 60) (t 62)⟩, ⟨(some 6), none, .mv (t 63)⟩])
  (.seq (.reg [⟨(some 64), none, .mv (t 6)⟩, ⟨(some 65), none, .len (t 64)⟩, ⟨(some 66), none, .bin .gtr (t 65) (k (.int .i64 64))⟩])
  (.cond (t 66)
  (.seq (.reg [⟨(some 4), none, .mv (k (.str []))⟩, ⟨(some 5), none, .mv (k (.int .i64 0))⟩])
  .ret)
  .skip))))))
  (.reg [⟨(some 15), none, .mv (t 7)⟩, ⟨(some 16), none, .bin .add (t 15) (k (.int .i64 1))⟩, ⟨(some 7), none, .mv (t 16)⟩]))))))
  (.seq (.reg [⟨(some 4), none, .mv (k (.str []))⟩, ⟨(some 5), none, .mv (k (.int .i64 0))⟩])
  .ret))))
theorem fn41 : Fn Go.Proofs.Tryd.prog 41 67 [.inl 4, .inl 5] c41 :=
  ⟨⟨_, _, Go.Proofs.Tryd.func41, rfl, by kernel_rfl, Go.Proofs.Tryd.ntmps41, by kernel_rfl, ⟨fun f => imp.contains f, false⟩, by kernel_rfl⟩⟩

def c48 : C :=
  (.seq (.reg [⟨(some 4), none, .mv (k (.int .i64 0))⟩, ⟨(some 5), none, .mv (k .nili)⟩])
  (.seq (.reg [⟨(some 6), none, .mv (t 0)⟩, ⟨(some 7), none, .pcall (k (.fn 56 [] [])) [(t 6)]⟩])
  (.seq (.reg [⟨(some 8), none, .mv (t 0)⟩, ⟨(some 9), none, .mv (t 0)⟩, ⟨(some 10), none, .nilc (t 9)⟩, ⟨(some 11), none, .faddr 1 (t 10)⟩, ⟨(some 12), none, .load false 1 (t 11)⟩, ⟨(some 13), none, .mv (t 1)⟩, ⟨(some 14), none, .app true 1 1 (t 12) (t 13)⟩, ⟨(some 15), none, .nilc (t 8)⟩, ⟨(some 16), none, .faddr 1 (t 15)⟩, ⟨none, none, .store 1 (t 16) (t 14)⟩])
  (.seq (.reg [⟨(some 17), none, .mv (t 1)⟩, ⟨(some 18), none, .lens (t 17)⟩, ⟨(some 4), none, .mv (t 18)⟩, ⟨(some 5), none, .mv (k .nili)⟩])
  .ret))))
theorem fn48 : Fn Go.Proofs.Tryd.prog 48 19 [.inl 4, .inl 5] c48 :=
  ⟨⟨_, _, Go.Proofs.Tryd.func48, rfl, by kernel_rfl, Go.Proofs.Tryd.ntmps48, by kernel_rfl, ⟨fun f => imp.contains f, false⟩, by kernel_rfl⟩⟩

end GP
