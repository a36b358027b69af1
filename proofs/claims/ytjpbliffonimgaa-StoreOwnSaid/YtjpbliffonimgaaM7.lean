import Derived.Test.YtjpbliffonimgaaProg
import Derived.Test.YtjpbliffonimgaaM5
import Derived.Test.YtjpbliffonimgaaM6
set_option linter.unusedSimpArgs false
set_option linter.unnecessarySimpa false
set_option linter.unusedSectionVars false
namespace GP
open Go Go.Proofs
open Rd O
set_option maxRecDepth 100000
def c16 : C :=
  (.seq (.reg [⟨(some 4), none, .mv (k .nilp)⟩, ⟨(some 5), none, .alloc [.nils, .nils]⟩])
  (.seq (.reg [Im 14 0, Ip 15 19 [(t 14)], Im 6 15])
  (.seq (.reg [Im 16 6, Ic 17 20 [(t 16)], Im 18 6, ⟨(some 19), none, .build [.nils, .nils] [(0, 1, (t 18))]⟩, ⟨(some 8), none, .alloc [.nils, .nils]⟩, Im 7 17, Is 2 8 19])
  (.seq (.seq (.reg [⟨(some 9), none, .mv (Ki 0)⟩])
  (.block 0
  (.loop
  (.seq (.seq (.reg [Im 20 9, Im 21 1, Iz 22 21, ⟨(some 23), none, .bin .lss (t 20) (t 22)⟩])
  (.cond (t 23)
  .skip
  (.exit 0)))
  (.seq (.block 1
  (.seq (.reg [Im 26 1, Im 27 9, ⟨(some 28), none, .iaddr 8 (t 26) (t 27)⟩, If 29 0 28, Il 30 29, ⟨(some 31), none, .bin .rem (t 30) (k (.int .u8 2))⟩, ⟨(some 32), none, .bin .eql (t 31) (k (.int .u8 0))⟩])
  (.cond (t 32)
  (.seq (.reg [Im 33 7, Im 34 1, Im 35 9, ⟨(some 36), none, .iaddr 8 (t 34) (t 35)⟩, If 37 1 36, Ia 38 7 37, Ic 39 21 [(t 33), (t 38)]])
  (.seq (.draw 1 [(Ia 41 2 8, []), (Im 42 1, []), (Im 43 9, []), (⟨(some 44), none, .iaddr 8 (t 42) (t 43)⟩, []), (If 45 1 44, []), (Ia 46 7 45, []), (Ip 47 22 [(t 41), (t 46)], []), (Im 40 47, []), (Ie 48 0 40, []), (Ie 49 1 40, []), (⟨(some 10), none, .rawAt 1 [.nils, .nils]⟩, []), (⟨none, none, .fillAt 1 2 (t 10) (t 48)⟩, []), (Im 11 49, [])])
  (.reg [Ia 50 2 10, Is 2 8 50])))
  (.seq (.reg [Im 51 7, Im 52 1, Im 53 9, ⟨(some 54), none, .iaddr 8 (t 52) (t 53)⟩, If 55 1 54, Ia 56 7 55, Ic 57 23 [(t 51), (t 56)]])
  (.seq (.draw 1 [(Ia 59 2 8, []), (Im 60 1, []), (Im 61 9, []), (⟨(some 62), none, .iaddr 8 (t 60) (t 61)⟩, []), (If 63 1 62, []), (Ia 64 7 63, []), (Ip 65 24 [(t 59), (t 64)], []), (Im 58 65, []), (Ie 66 0 58, []), (Ie 67 1 58, []), (⟨(some 12), none, .rawAt 1 [.nils, .nils]⟩, []), (⟨none, none, .fillAt 1 2 (t 12) (t 66)⟩, []), (Im 13 67, [])])
  (.reg [Ia 68 2 12, Is 2 8 68]))))))
  (.reg [Im 24 9, ⟨(some 25), none, .bin .add (t 24) (Ki 1)⟩, Im 9 25]))))))
  (.seq (.draw 0 [(Im 69 7, []), (Ia 70 2 8, []), (Im 4 69, []), (Is 2 5 70, [])])
  .ret)))))
theorem fn16 : Fn Go.Proofs.Try.prog 16 71 [.inl 4, .inr (5, true, 2)] c16 :=
  ⟨⟨_, _, Go.Proofs.Try.func16, rfl, by kernel_rfl, Go.Proofs.Try.ntmps16, by kernel_rfl, ⟨fun f => impS.contains f, false, fun _ => false, false⟩, by kernel_rfl⟩⟩
def c20 : C :=
  (.seq (.reg [⟨(some 2), none, .mv (k .nilp)⟩])
  (.seq (.reg [Im 3 0, Ip 4 58 [(t 3)], ⟨(some 5), none, .build [.nils, .nils] [(0, 1, (t 4))]⟩, ⟨(some 6), none, .box (t 5)⟩, Im 2 6])
  .ret))
theorem fn20 : Fn Go.Proofs.Try.prog 20 7 [.inl 2] c20 :=
  ⟨⟨_, _, Go.Proofs.Try.func20, rfl, by kernel_rfl, Go.Proofs.Try.ntmps20, by kernel_rfl, ⟨fun f => impS.contains f, false, fun _ => false, false⟩, by kernel_rfl⟩⟩
def c23 : C :=
  (.seq (.reg [⟨(some 3), none, .box (t 1)⟩, ⟨(some 4), none, .mv (Ki 0)⟩])
  (.seq (.draw 0 [(Im 8 0, []), (In 9 8, []), (If 10 1 9, []), (Il 11 10, []), (Ia 12 7 3, []), (Ip 13 60 [(t 11), (t 12), (k (.fn 61 [] []))], []), (Im 7 13, []), (Ie 14 0 7, []), (Ie 15 1 7, []), (Im 5 14, []), (Im 6 15, [])])
  (.seq (.seq (.reg [Im 16 6, ⟨(some 17), none, .un .not (t 16)⟩])
  (.cond (t 17)
  (.seq (.reg [⟨(some 4), none, .mv (Ki 8)⟩])
  .ret)
  .skip))
  (.seq (.reg [Im 18 0, Im 19 0, In 20 19, If 21 1 20, Il 22 21, Im 23 5, Im 24 5, ⟨(some 25), none, .bin .add (t 24) (Ki 1)⟩, Ic 26 64 [(t 22), (t 23), (t 25)], In 27 18, If 28 1 27, Is 1 28 26])
  (.seq (.reg [⟨(some 4), none, .mv (Ki 0)⟩])
  .ret)))))
theorem fn23 : Fn Go.Proofs.Try.prog 23 29 [.inl 4] c23 :=
  ⟨⟨_, _, Go.Proofs.Try.func23, rfl, by kernel_rfl, Go.Proofs.Try.ntmps23, by kernel_rfl, ⟨fun f => impS.contains f, false, fun _ => false, false⟩, by kernel_rfl⟩⟩
def c24 : C :=
  (.seq (.reg [⟨(some 2), none, .box (t 0)⟩, ⟨(some 3), none, .box (t 1)⟩, ⟨(some 4), none, .alloc [.nils, .nils]⟩, ⟨(some 5), none, .mv (Ki 0)⟩])
  (.seq (.reg [Ia 8 2 2, Ia 9 7 3, Ip 10 63 [(t 8), (t 9)], Im 6 10])
  (.seq (.seq (.reg [Im 11 6, ⟨(some 12), none, .bin .lss (t 11) (Ki 0)⟩])
  (.cond (t 12)
  (.seq (.reg [Ia 13 2 2, Is 2 4 13, ⟨(some 5), none, .mv (Ki 8)⟩])
  .ret)
  .skip))
  (.seq (.reg [⟨(some 14), none, .bsl 7 []⟩, If 15 1 2, Il 16 15, Im 17 6, ⟨(some 18), none, .sls 7 (t 16) none (some (t 17))⟩, ⟨(some 19), none, .app false 7 104 (t 14) (t 18)⟩, Im 7 19])
  (.seq (.draw 0 [(If 20 0 2, []), (Il 21 20, []), (Im 22 7, []), (If 23 1 2, []), (Il 24 23, []), (Im 25 6, []), (⟨(some 26), none, .bin .add (t 25) (Ki 1)⟩, []), (⟨(some 27), none, .sls 7 (t 24) (some (t 26)) none⟩, []), (⟨(some 28), none, .app false 7 104 (t 22) (t 27)⟩, []), (⟨(some 29), none, .build [.nils, .nils] [(0, 1, (t 21)), (1, 1, (t 28))]⟩, []), (Is 2 4 29, []), (⟨(some 5), none, .mv (Ki 0)⟩, [])])
  .ret)))))
theorem fn24 : Fn Go.Proofs.Try.prog 24 30 [.inr (4, true, 2), .inl 5] c24 :=
  ⟨⟨_, _, Go.Proofs.Try.func24, rfl, by kernel_rfl, Go.Proofs.Try.ntmps24, by kernel_rfl, ⟨fun f => impS.contains f, false, fun _ => false, false⟩, by kernel_rfl⟩⟩
def c58 : C :=
  (.seq (.reg [⟨(some 2), none, .mv (k .nils)⟩])
  (.seq (.seq (.reg [Im 3 0, ⟨(some 4), none, .isn false (t 3)⟩])
  (.cond (t 4)
  (.seq (.reg [⟨(some 2), none, .mv (k .nils)⟩])
  .ret)
  .skip))
  (.seq (.reg [⟨(some 5), none, .bsl 4 []⟩, Im 6 0, ⟨(some 7), none, .app false 4 48 (t 5) (t 6)⟩, Im 2 7])
  .ret)))
theorem fn58 : Fn Go.Proofs.Try.prog 58 8 [.inl 2] c58 :=
  ⟨⟨_, _, Go.Proofs.Try.func58, rfl, by kernel_rfl, Go.Proofs.Try.ntmps58, by kernel_rfl, ⟨fun f => impS.contains f, false, fun _ => false, false⟩, by kernel_rfl⟩⟩
end GP
namespace GP
open Go Go.Proofs
open Rd O
set_option maxRecDepth 100000
def c3 : C :=
  (.seq (.reg [⟨(some 6), none, .mv (k (.bool false))⟩])
  (.seq (.seq (.reg [Ic 16 14 [], ⟨(some 17), none, .un .not (t 16)⟩, Im 18 17, Jm 19 18 false 0, Jm 20 18 false 1, ⟨(some 21), (some (18, false)), .pcall (k (.fn 15 [] [])) [(t 19), (t 20), (Ki 40)]⟩, ⟨(some 22), (some (18, false)), .un .not (t 21)⟩, ⟨(some 23), none, .pick (t 18) (k (.bool true)) (t 22)⟩, Im 24 23, Jm 25 24 false 1, ⟨(some 26), (some (24, false)), .len (t 25)⟩, ⟨(some 27), (some (24, false)), .bin .eql (t 26) (Ki 0)⟩, ⟨(some 28), none, .pick (t 24) (k (.bool true)) (t 27)⟩])
  (.cond (t 28)
  (.seq (.reg [Ic 29 14 [], Im 6 29])
  .ret)
  .skip))
  (.seq (.reg [⟨(some 7), none, .mv (k .nils)⟩, ⟨(some 8), none, .mv (k .nils)⟩])
  (.seq (.seq (.reg [⟨(some 9), none, .mv (Ki 0)⟩])
  (.block 0
  (.loop
  (.seq (.seq (.reg [Im 30 9, Im 31 1, Iz 32 31, ⟨(some 33), none, .bin .lss (t 30) (t 32)⟩])
  (.cond (t 33)
  .skip
  (.exit 0)))
  (.seq (.block 1
  (.seq (.seq (.reg [⟨(some 10), none, .mv (Ki 0)⟩])
  (.block 2
  (.loop
  (.seq (.seq (.reg [Im 36 10, Im 37 9, ⟨(some 38), none, .bin .lss (t 36) (t 37)⟩])
  (.cond (t 38)
  .skip
  (.exit 2)))
  (.seq (.block 3
  (.seq (.draw 0 [(Im 41 1, []), (Im 42 10, []), (⟨(some 43), none, .iaddr 8 (t 41) (t 42)⟩, []), (If 44 1 43, []), (If 45 0 44, []), (Il 46 45, []), (Im 47 1, []), (Im 48 9, []), (⟨(some 49), none, .iaddr 8 (t 47) (t 48)⟩, []), (If 50 1 49, []), (If 51 0 50, []), (Il 52 51, []), (⟨(some 53), none, .bin .eql (t 46) (t 52)⟩, []), (Im 54 53, []), (Jm 55 54 true 1, []), (Jm 56 54 true 10, []), (⟨(some 57), (some (54, true)), .iaddr 8 (t 55) (t 56)⟩, []), (Jf 58 54 true 1 57, []), (Jf 59 54 true 1 58, []), (Jl 60 54 true 59, []), (Jm 61 54 true 1, []), (Jm 62 54 true 9, []), (⟨(some 63), (some (54, true)), .iaddr 8 (t 61) (t 62)⟩, []), (Jf 64 54 true 1 63, []), (Jf 65 54 true 1 64, []), (Jl 66 54 true 65, []), (⟨(some 67), (some (54, true)), .bin .eql (t 60) (t 66)⟩, []), (⟨(some 68), none, .pick (t 54) (t 67) (k (.bool false))⟩, []), (Im 69 68, []), (Jm 70 69 true 1, []), (Jm 71 69 true 10, []), (⟨(some 72), (some (69, true)), .iaddr 8 (t 70) (t 71)⟩, []), (Jf 73 69 true 1 72, []), (Jf 74 69 true 2 73, []), (Jl 75 69 true 74, []), (Jm 76 69 true 1, []), (Jm 77 69 true 9, []), (⟨(some 78), (some (69, true)), .iaddr 8 (t 76) (t 77)⟩, []), (Jf 79 69 true 1 78, []), (Jf 80 69 true 2 79, []), (Jl 81 69 true 80, []), (⟨(some 82), (some (69, true)), .bin .eql (t 75) (t 81)⟩, []), (⟨(some 83), none, .pick (t 69) (t 82) (k (.bool false))⟩, [])])
  (.cond (t 83)
  (.seq (.reg [⟨(some 6), none, .mv (k (.bool true))⟩])
  .ret)
  .skip)))
  (.reg [Im 39 10, ⟨(some 40), none, .bin .add (t 39) (Ki 1)⟩, Im 10 40]))))))
  (.reg [Im 84 7, Im 85 1, Im 86 9, ⟨(some 87), none, .iaddr 8 (t 85) (t 86)⟩, If 88 1 87, Ia 89 7 88, ⟨(some 90), none, .build [(.int .u8 0), (.str []), (.str []), (.str []), (.int .i64 0), (.int .i64 0), (.str []), .nils] [(1, 7, (t 89))]⟩, ⟨(some 91), none, .bsl 8 [(t 90)]⟩, ⟨(some 92), none, .app false 8 112 (t 84) (t 91)⟩, Im 7 92])))
  (.reg [Im 34 9, ⟨(some 35), none, .bin .add (t 34) (Ki 1)⟩, Im 9 35]))))))
  (.seq (.seq (.reg [⟨(some 11), none, .mv (Ki 0)⟩])
  (.block 4
  (.loop
  (.seq (.seq (.reg [Im 93 11, Im 94 1, Iz 95 94, ⟨(some 96), none, .bin .lss (t 93) (t 95)⟩])
  (.cond (t 96)
  .skip
  (.exit 4)))
  (.seq (.block 5
  (.reg [Im 99 8, Im 100 7, Im 101 11, Im 102 2, ⟨(some 103), none, .conv .i64 (t 102)⟩, ⟨(some 104), none, .bin .add (t 101) (t 103)⟩, Im 105 7, Iz 106 105, ⟨(some 107), none, .bin .rem (t 104) (t 106)⟩, ⟨(some 108), none, .iaddr 8 (t 100) (t 107)⟩, Ia 109 8 108, ⟨(some 110), none, .bsl 8 [(t 109)]⟩, ⟨(some 111), none, .app false 8 112 (t 99) (t 110)⟩, Im 8 111]))
  (.reg [Im 97 11, ⟨(some 98), none, .bin .add (t 97) (Ki 1)⟩, Im 11 98]))))))
  (.seq (.reg [Im 113 0, Im 114 7, Ic 115 16 [(t 113), (t 114)], Im 112 115, Ie 116 0 112, Ie 117 1 112, ⟨(some 13), none, .alloc [.nils, .nils]⟩, Im 12 116, Is 2 13 117])
  (.seq (.reg [Im 119 0, Im 120 8, Ic 121 16 [(t 119), (t 120)], Im 118 121, Ie 122 0 118, Ie 123 1 118, ⟨(some 15), none, .alloc [.nils, .nils]⟩, Im 14 122, Is 2 15 123])
  (.seq (.reg [Im 124 12, Ip 125 18 [(t 124)], Im 126 14, Ip 127 18 [(t 126)], Ip 128 17 [(t 125), (t 127)], Im 6 128])
  .ret))))))))
def c15 : C :=
  (.seq (.reg [⟨(some 6), none, .mv (k (.bool false))⟩])
  (.seq (.seq (.reg [⟨(some 7), none, .mv (Ki 0)⟩])
  (.block 0
  (.loop
  (.seq (.seq (.reg [Im 9 7, Im 10 1, Iz 11 10, ⟨(some 12), none, .bin .lss (t 9) (t 11)⟩, Im 13 12, Jm 14 13 true 7, ⟨(some 15), (some (13, true)), .bin .lss (t 14) (Ki 300)⟩, ⟨(some 16), none, .pick (t 13) (t 15) (k (.bool false))⟩])
  (.cond (t 16)
  .skip
  (.exit 0)))
  (.seq (.block 1
  (.seq (.reg [Im 19 1, Im 20 7, ⟨(some 21), none, .iaddr 8 (t 19) (t 20)⟩, If 22 1 21, Ia 23 7 22, ⟨(some 8), none, .alloc [(.str []), (.str []), (.str []), (.int .i64 0), (.int .i64 0), (.str []), .nils]⟩, Is 7 8 23])
  (.seq (.reg [If 24 0 8, Il 25 24, ⟨(some 26), none, .lens (t 25)⟩, ⟨(some 27), none, .bin .gtr (t 26) (Ki 200)⟩, Im 28 27, Jf 29 28 false 1 8, Jl 30 28 false 29, ⟨(some 31), (some (28, false)), .lens (t 30)⟩, ⟨(some 32), (some (28, false)), .bin .gtr (t 31) (Ki 200)⟩, ⟨(some 33), none, .pick (t 28) (k (.bool true)) (t 32)⟩, Im 34 33, Jf 35 34 false 2 8, Jl 36 34 false 35, ⟨(some 37), (some (34, false)), .lens (t 36)⟩, ⟨(some 38), (some (34, false)), .bin .gtr (t 37) (Ki 200)⟩, ⟨(some 39), none, .pick (t 34) (k (.bool true)) (t 38)⟩, Im 40 39, Jf 41 40 false 3 8, ⟨(some 42), (some (40, false)), .load true 4 (t 41)⟩, ⟨(some 43), (some (40, false)), .bsl 4 [(t 42)]⟩, ⟨(some 44), (some (40, false)), .pcall (k (.fn 49 [] [])) [(t 43), (Ki 1)]⟩, ⟨(some 45), (some (40, false)), .un .not (t 44)⟩, ⟨(some 46), none, .pick (t 40) (k (.bool true)) (t 45)⟩])
  (.cond (t 46)
  (.seq (.reg [⟨(some 6), none, .mv (k (.bool false))⟩])
  .ret)
  .skip))))
  (.reg [Im 17 7, ⟨(some 18), none, .bin .add (t 17) (Ki 1)⟩, Im 7 18]))))))
  (.seq (.reg [Im 47 1, Iz 48 47, Im 49 2, ⟨(some 50), none, .bin .leq (t 48) (t 49)⟩, Im 51 50, Jm 52 51 true 0, ⟨(some 53), (some (51, true)), .len (t 52)⟩, ⟨(some 54), (some (51, true)), .bin .leq (t 53) (Ki 12)⟩, ⟨(some 55), none, .pick (t 51) (t 54) (k (.bool false))⟩, Im 6 55])
  .ret)))
theorem fn15 : Fn Go.Proofs.Try.prog 15 56 [.inl 6] c15 :=
  ⟨⟨_, _, Go.Proofs.Try.func15, rfl, by kernel_rfl, Go.Proofs.Try.ntmps15, by kernel_rfl, ⟨fun f => impS.contains f, false, fun _ => false, false⟩, by kernel_rfl⟩⟩
def c61 : C :=
  (.seq (.reg [⟨(some 2), none, .box (t 0)⟩, ⟨(some 3), none, .box (t 1)⟩, ⟨(some 4), none, .mv (Ki 0)⟩])
  (.seq (.draw 0 [(If 5 0 2, []), (Il 6 5, []), (If 7 0 3, []), (Il 8 7, []), (Ip 9 101 [(t 6), (t 8)], []), (If 10 1 2, []), (Il 11 10, []), (If 12 1 3, []), (Il 13 12, []), (Ip 14 101 [(t 11), (t 13)], []), (If 15 2 2, []), (Il 16 15, []), (If 17 2 3, []), (Il 18 17, []), (Ip 19 101 [(t 16), (t 18)], []), (⟨(some 20), none, .bslq 1 [(t 9), (t 14), (t 19)]⟩, []), (Ip 21 100 [(t 20)], []), (Im 4 21, [])])
  .ret))
theorem fn61 : Fn Go.Proofs.Try.prog 61 22 [.inl 4] c61 :=
  ⟨⟨_, _, Go.Proofs.Try.func61, rfl, by kernel_rfl, Go.Proofs.Try.ntmps61, by kernel_rfl, ⟨fun f => impS.contains f, false, fun _ => false, false⟩, by kernel_rfl⟩⟩
def c62 : C :=
  (.seq (.reg [⟨(some 6), none, .mv (k .nils)⟩])
  (.seq (.reg [Im 10 0, Im 11 1, ⟨(some 12), none, .sls 7 (t 10) (some (t 11)) none⟩])
  (.seq (.reg [Im 13 2, Iz 14 13, Im 7 14])
  (.seq (.seq (.reg [Im 15 7, ⟨(some 16), none, .bin .eql (t 15) (Ki 0)⟩])
  (.cond (t 16)
  (.seq (.reg [Im 17 0, Im 6 17])
  .ret)
  .skip))
  (.seq (.reg [Im 18 0, Iz 19 18, Im 8 19])
  (.seq (.seq (.reg [Im 20 1, Im 21 8, ⟨(some 22), none, .bin .eql (t 20) (t 21)⟩])
  (.cond (t 22)
  (.seq (.reg [Im 23 0, Im 24 2, ⟨(some 25), none, .appm true false 7 104 (t 23) (t 24)⟩, Im 6 25])
  .ret)
  .skip))
  (.seq (.seq (.reg [Im 26 8, Im 27 7, ⟨(some 28), none, .bin .add (t 26) (t 27)⟩, Im 29 0, ⟨(some 30), none, .capz (t 29)⟩, ⟨(some 31), none, .bin .gtr (t 28) (t 30)⟩])
  (.cond (t 31)
  (.seq (.reg [Im 32 0, Im 33 1, ⟨(some 34), none, .sls 7 (t 32) none (some (t 33))⟩, Im 35 8, Im 36 7, ⟨(some 37), none, .bin .add (t 35) (t 36)⟩, Im 38 1, ⟨(some 39), none, .bin .sub (t 37) (t 38)⟩, ⟨(some 40), none, .appz true 7 104 [(.str []), (.str []), (.str []), (.int .i64 0), (.int .i64 0), (.str []), .nils] (t 34) (t 39)⟩, Im 9 40])
  (.seq (.reg [Im 41 9, Im 42 1, ⟨(some 43), none, .sls 7 (t 41) (some (t 42)) none⟩, Im 44 2, ⟨(some 45), none, .copy 7 (t 43) (t 44)⟩])
  (.seq (.draw 0 [(Im 46 9, []), (Im 47 1, []), (Im 48 7, []), (⟨(some 49), none, .bin .add (t 47) (t 48)⟩, []), (⟨(some 50), none, .sls 7 (t 46) (some (t 49)) none⟩, []), (Im 51 0, []), (Im 52 1, []), (⟨(some 53), none, .sls 7 (t 51) (some (t 52)) none⟩, []), (⟨(some 54), none, .copy 7 (t 50) (t 53)⟩, [])])
  (.seq (.reg [Im 55 9, Im 6 55])
  .ret))))
  .skip))
  (.seq (.reg [Im 56 0, Im 57 8, Im 58 7, ⟨(some 59), none, .bin .add (t 57) (t 58)⟩, ⟨(some 60), none, .sls 7 (t 56) none (some (t 59))⟩, Im 0 60])
  (.seq (.seq (.reg [Im 61 2, Im 62 0, Im 63 1, Im 64 7, ⟨(some 65), none, .bin .add (t 63) (t 64)⟩, ⟨(some 66), none, .sls 7 (t 62) (some (t 65)) none⟩, Ip 67 102 [(t 61), (t 66)], ⟨(some 68), none, .un .not (t 67)⟩])
  (.cond (t 68)
  (.seq (.draw 0 [(Im 69 0, []), (Im 70 1, []), (Im 71 7, []), (⟨(some 72), none, .bin .add (t 70) (t 71)⟩, []), (⟨(some 73), none, .sls 7 (t 69) (some (t 72)) none⟩, []), (Im 74 0, []), (Im 75 1, []), (⟨(some 76), none, .sls 7 (t 74) (some (t 75)) none⟩, []), (⟨(some 77), none, .copy 7 (t 73) (t 76)⟩, [])])
  (.seq (.reg [Im 78 0, Im 79 1, ⟨(some 80), none, .sls 7 (t 78) (some (t 79)) none⟩, Im 81 2, ⟨(some 82), none, .copy 7 (t 80) (t 81)⟩])
  (.seq (.reg [Im 83 0, Im 6 83])
  .ret)))
  .skip))
  (.seq (.reg [Im 84 0, Im 85 8, ⟨(some 86), none, .sls 7 (t 84) (some (t 85)) none⟩, Im 87 2, ⟨(some 88), none, .copy 7 (t 86) (t 87)⟩])
  (.seq (.reg [Im 89 0, Im 90 1, ⟨(some 91), none, .sls 7 (t 89) (some (t 90)) none⟩, Im 92 7, Ic 93 103 [(t 91), (t 92)]])
  (.seq (.reg [Im 94 0, Im 6 94])
  .ret))))))))))))
theorem fn62 : Fn Go.Proofs.Try.prog 62 95 [.inl 6] c62 :=
  ⟨⟨_, _, Go.Proofs.Try.func62, rfl, by kernel_rfl, Go.Proofs.Try.ntmps62, by kernel_rfl, ⟨fun f => impS.contains f, true, fun _ => false, false⟩, by kernel_rfl⟩⟩
def c64 : C :=
  (.seq (.reg [⟨(some 6), none, .mv (k .nils)⟩])
  (.seq (.reg [Im 8 0, Im 9 1, Im 10 2, Im 11 0, Iz 12 11, ⟨(some 13), none, .sls3 7 (t 8) (some (t 9)) (some (t 10)) (some (t 12))⟩])
  (.seq (.seq (.reg [Im 14 1, Im 15 2, ⟨(some 16), none, .bin .eql (t 14) (t 15)⟩])
  (.cond (t 16)
  (.seq (.reg [Im 17 0, Im 6 17])
  .ret)
  .skip))
  (.seq (.reg [Im 18 0, Iz 19 18, Im 7 19])
  (.seq (.draw 0 [(Im 20 0, []), (Im 21 1, []), (⟨(some 22), none, .sls 7 (t 20) none (some (t 21))⟩, []), (Im 23 0, []), (Im 24 2, []), (⟨(some 25), none, .sls 7 (t 23) (some (t 24)) none⟩, []), (⟨(some 26), none, .appm true false 7 104 (t 22) (t 25)⟩, []), (Im 0 26, [])])
  (.seq (.reg [Im 27 0, Im 28 0, Iz 29 28, Im 30 7, ⟨(some 31), none, .sls 7 (t 27) (some (t 29)) (some (t 30))⟩, ⟨none, none, .clr [(.str []), (.str []), (.str []), (.int .i64 0), (.int .i64 0), (.str []), .nils] (t 31)⟩])
  (.seq (.reg [Im 32 0, Im 6 32])
  .ret)))))))
theorem fn64 : Fn Go.Proofs.Try.prog 64 33 [.inl 6] c64 :=
  ⟨⟨_, _, Go.Proofs.Try.func64, rfl, by kernel_rfl, Go.Proofs.Try.ntmps64, by kernel_rfl, ⟨fun f => impS.contains f, true, fun _ => false, false⟩, by kernel_rfl⟩⟩
def c97 : C :=
  (.seq (.reg [⟨(some 4), none, .mv (k (.bool false))⟩])
  (.seq (.reg [Im 5 0, Im 6 1, Ip 7 128 [(t 5), (t 6)], ⟨(some 8), none, .bin .geq (t 7) (Ki 0)⟩, Im 4 8])
  .ret))
theorem fn97 : Fn Go.Proofs.Try.prog 97 9 [.inl 4] c97 :=
  ⟨⟨_, _, Go.Proofs.Try.func97, rfl, by kernel_rfl, Go.Proofs.Try.ntmps97, by kernel_rfl, ⟨fun f => impS.contains f, false, fun _ => false, false⟩, by kernel_rfl⟩⟩
def c99 : C :=
  (.seq (.reg [⟨(some 3), none, .box (t 1)⟩, ⟨(some 4), none, .mv (k (.bool false))⟩])
  (.seq (.seq (.reg [If 12 2 3, Il 13 12, Iz 14 13, ⟨(some 15), none, .mv (Ki 0)⟩])
  (.block 0
  (.loop
  (.seq (.reg [⟨(some 16), none, .bin .lss (t 15) (t 14)⟩])
  (.seq (.cond (t 16)
  .skip
  (.exit 0))
  (.seq (.block 1
  (.seq (.reg [⟨(some 17), none, .iaddr 6 (t 13) (t 15)⟩, Ia 18 6 17, ⟨(some 6), none, .alloc [(.str []), (.str []), (.int .i64 0), (.int .i64 0), (.str []), .nils]⟩, Is 6 6 18])
  (.seq (.reg [Im 20 0, If 21 0 6, Il 22 21, If 23 1 6, Il 24 23, ⟨(some 25), none, .build [(.str []), (.int .i64 0), (.int .i64 0), (.str []), .nils, (.str []), (.str []), .nils] [(0, 1, (k (.str [97, 116, 116, 114]))), (5, 1, (t 22)), (6, 1, (t 24))]⟩, Ip 26 129 [(t 20), (t 25)], Im 19 26, Ie 27 0 19, Ie 28 1 19, Im 7 27, Im 8 28])
  (.seq (.reg [If 30 2 6, Ia 31 4 30, ⟨(some 32), none, .build [(.str []), (.int .i64 0), (.int .i64 0), (.str []), .nils, (.str []), (.str []), .nils] [(0, 1, (k (.str [118, 97, 108, 117, 101]))), (1, 4, (t 31))]⟩, Ip 33 129 [(k .nils), (t 32)], Im 29 33, Ie 34 0 29, Ie 35 1 29, Im 9 34, Im 10 35])
  (.seq (.reg [If 36 2 6, If 37 0 36, Il 38 37, ⟨(some 39), none, .bin .eql (t 38) (Ki 5)⟩, Im 40 39, Jf 41 40 true 2 6, Jf 42 40 true 3 41, Jl 43 40 true 42, ⟨(some 44), (some (40, true)), .len (t 43)⟩, ⟨(some 45), (some (40, true)), .bin .eql (t 44) (Ki 0)⟩, ⟨(some 46), none, .pick (t 40) (t 45) (k (.bool false))⟩, Im 47 46, Jm 48 47 true 7, ⟨(some 49), (some (47, true)), .bin .gtr (t 48) (Ki 10)⟩, ⟨(some 50), none, .pick (t 47) (t 49) (k (.bool false))⟩, Im 11 50])
  (.seq (.reg [Im 51 8, ⟨(some 52), none, .bin .neq (t 51) (Ki 0)⟩, Im 53 52, Jm 54 53 false 11, ⟨(some 55), (some (53, false)), .un .not (t 54)⟩, Jm 56 53 false 55, Jm 57 56 true 10, ⟨(some 58), (some (56, true)), .bin .neq (t 57) (Ki 0)⟩, Jm 59 56 true 58, Jm 60 59 false 9, Jm 61 59 false 7, ⟨(some 62), (some (59, false)), .bin .neq (t 60) (t 61)⟩, ⟨(some 63), (some (56, true)), .pick (t 59) (k (.bool true)) (t 62)⟩, ⟨(some 64), (some (53, false)), .pick (t 56) (t 63) (k (.bool false))⟩, ⟨(some 65), none, .pick (t 53) (k (.bool true)) (t 64)⟩])
  (.cond (t 65)
  (.seq (.reg [⟨(some 4), none, .mv (k (.bool false))⟩])
  .ret)
  .skip)))))))
  (.reg [⟨(some 66), none, .bin .add (t 15) (Ki 1)⟩, Im 15 66])))))))
  (.seq (.reg [Ia 67 3 3, Ip 68 130 [(t 67)], Im 4 68])
  .ret)))
theorem fn99 : Fn Go.Proofs.Try.prog 99 69 [.inl 4] c99 :=
  ⟨⟨_, _, Go.Proofs.Try.func99, rfl, by kernel_rfl, Go.Proofs.Try.ntmps99, by kernel_rfl, ⟨fun f => impS.contains f, false, fun _ => false, false⟩, by kernel_rfl⟩⟩
def c104 : C :=
  (.seq (.reg [⟨(some 1), none, .box (t 0)⟩, ⟨(some 2), none, .mv (k (.bool false))⟩])
  (.seq (.seq (.reg [⟨(some 3), none, .mv (Ki 0)⟩])
  (.block 0
  (.loop
  (.seq (.seq (.reg [Im 4 3, If 5 2 1, Il 6 5, Iz 7 6, ⟨(some 8), none, .bin .lss (t 4) (t 7)⟩])
  (.cond (t 8)
  .skip
  (.exit 0)))
  (.seq (.block 1
  (.seq (.reg [If 11 2 1, Il 12 11, Im 13 3, ⟨(some 14), none, .iaddr 6 (t 12) (t 13)⟩, If 15 2 14, Ia 16 4 15, Ip 17 51 [(t 16)], ⟨(some 18), none, .un .not (t 17)⟩, Im 19 18, Jf 20 19 false 2 1, Jl 21 19 false 20, Jm 22 19 false 3, ⟨(some 23), (some (19, false)), .iaddr 6 (t 21) (t 22)⟩, Jf 24 19 false 2 23, Jf 25 19 false 0 24, Jl 26 19 false 25, ⟨(some 27), (some (19, false)), .bin .eql (t 26) (Ki 0)⟩, ⟨(some 28), none, .pick (t 19) (k (.bool true)) (t 27)⟩])
  (.cond (t 28)
  (.seq (.reg [⟨(some 2), none, .mv (k (.bool false))⟩])
  .ret)
  .skip)))
  (.reg [Im 9 3, ⟨(some 10), none, .bin .add (t 9) (Ki 1)⟩, Im 3 10]))))))
  (.seq (.reg [If 29 0 1, Il 30 29, ⟨(some 31), none, .bin .geq (t 30) (Ki 0)⟩, Im 32 31, Jf 33 32 true 0 1, Jl 34 32 true 33, ⟨(some 35), (some (32, true)), .bin .leq (t 34) (Ki 1099511627776)⟩, ⟨(some 36), none, .pick (t 32) (t 35) (k (.bool false))⟩, Im 2 36])
  .ret)))
theorem fn104 : Fn Go.Proofs.Try.prog 104 37 [.inl 2] c104 :=
  ⟨⟨_, _, Go.Proofs.Try.func104, rfl, by kernel_rfl, Go.Proofs.Try.ntmps104, by kernel_rfl, ⟨fun f => impS.contains f, false, fun _ => false, false⟩, by kernel_rfl⟩⟩
def c128 : C :=
  (.seq (.reg [⟨(some 4), none, .mv (Ki 0)⟩])
  (.seq (.seq (.reg [Im 6 0, Iz 7 6, ⟨(some 8), none, .mv (Ki 0)⟩])
  (.block 0
  (.loop
  (.seq (.reg [⟨(some 9), none, .bin .lss (t 8) (t 7)⟩])
  (.seq (.cond (t 9)
  .skip
  (.exit 0))
  (.seq (.block 1
  (.seq (.reg [Im 10 8, Im 5 10])
  (.seq (.reg [Im 11 1, Im 12 0, Im 13 5, ⟨(some 14), none, .iaddr 4 (t 12) (t 13)⟩, Ia 15 4 14, ⟨(some 16), none, .pcall (t 11) [(t 15)]⟩])
  (.cond (t 16)
  (.seq (.reg [Im 17 5, Im 4 17])
  .ret)
  .skip))))
  (.reg [⟨(some 18), none, .bin .add (t 8) (Ki 1)⟩, Im 8 18])))))))
  (.seq (.reg [⟨(some 4), none, .mv (k (.int .i64 (-1)))⟩])
  .ret)))
theorem fn128 : Fn Go.Proofs.Try.prog 128 19 [.inl 4] c128 :=
  ⟨⟨_, _, Go.Proofs.Try.func128, rfl, by kernel_rfl, Go.Proofs.Try.ntmps128, by kernel_rfl, ⟨fun f => impS.contains f, false, fun _ => false, false⟩, by kernel_rfl⟩⟩
def c170 : C :=
  (.seq (.reg [⟨(some 1), none, .box (t 0)⟩, ⟨(some 2), none, .mv (Ki 0)⟩])
  (.seq (.block 0
  (.seq (.reg [Ia 4 4 1, Ip 5 53 [(t 4)], ⟨(some 6), none, .un .not (t 5)⟩, Im 7 6, Jf 8 7 false 0 1, Jl 9 7 false 8, ⟨(some 10), (some (7, false)), .bin .eql (t 9) (Ki 0)⟩, ⟨(some 11), none, .pick (t 7) (k (.bool true)) (t 10)⟩, Im 12 11, Jf 13 12 false 0 1, Jl 14 12 false 13, ⟨(some 15), (some (12, false)), .bin .eql (t 14) (Ki 5)⟩, Jm 16 12 false 15, Jf 17 16 true 3 1, Jl 18 16 true 17, ⟨(some 19), (some (16, true)), .len (t 18)⟩, ⟨(some 20), (some (16, true)), .bin .eql (t 19) (Ki 0)⟩, ⟨(some 21), (some (12, false)), .pick (t 16) (t 20) (k (.bool false))⟩, ⟨(some 22), none, .pick (t 12) (k (.bool true)) (t 21)⟩, Im 3 22])
  (.cond (t 3)
  (.seq (.reg [⟨(some 2), none, .mv (Ki 0)⟩])
  .ret)
  (.seq (.reg [If 24 0 1, Il 25 24, ⟨(some 26), none, .bin .eql (t 25) (Ki 5)⟩, Im 23 26])
  (.cond (t 23)
  (.seq (.reg [If 27 3 1, Il 28 27, ⟨(some 29), none, .iaddr 4 (t 28) (Ki 0)⟩, If 30 0 29, Il 31 30, ⟨(some 32), none, .bin .add (Ki 10) (t 31)⟩, Im 2 32])
  .ret)
  .skip)))))
  (.seq (.reg [If 33 0 1, Il 34 33, Im 2 34])
  .ret)))
theorem fn170 : Fn Go.Proofs.Try.prog 170 35 [.inl 2] c170 :=
  ⟨⟨_, _, Go.Proofs.Try.func170, rfl, by kernel_rfl, Go.Proofs.Try.ntmps170, by kernel_rfl, ⟨fun f => impS.contains f, false, fun _ => false, false⟩, by kernel_rfl⟩⟩
end GP
namespace GP
open Go Go.Proofs
open Rd O
set_option maxRecDepth 100000
def c19 : C :=
  (.seq (.reg [⟨(some 2), none, .mv (k .nils)⟩])
  (.seq (.reg [⟨(some 3), none, .mv (k .nils)⟩])
  (.seq (.seq (.reg [⟨(some 4), none, .mv (Ki 0)⟩])
  (.block 0
  (.loop
  (.seq (.seq (.reg [Im 6 4, Im 7 0, Iz 8 7, ⟨(some 9), none, .bin .lss (t 6) (t 8)⟩])
  (.cond (t 9)
  .skip
  (.exit 0)))
  (.seq (.block 1
  (.seq (.reg [Im 12 0, Im 13 4, ⟨(some 14), none, .iaddr 4 (t 12) (t 13)⟩, Ia 15 4 14, ⟨(some 5), none, .alloc [(.str []), (.str []), (.int .i64 0), (.bool false)]⟩, Is 4 5 15])
  (.seq (.reg [If 16 2 5, Il 17 16, ⟨(some 18), none, .conv .u64 (t 17)⟩, ⟨(some 19), none, .bin .rem (t 18) (k (.int .u64 4))⟩, ⟨(some 20), none, .conv .i64 (t 19)⟩, ⟨(some 21), none, .bin .add (Ki 1) (t 20)⟩, If 22 2 5, Is 1 22 21])
  (.reg [Im 23 3, Ia 24 4 5, ⟨(some 25), none, .bsl 4 [(t 24)]⟩, ⟨(some 26), none, .app false 4 48 (t 23) (t 25)⟩, Im 3 26]))))
  (.reg [Im 10 4, ⟨(some 11), none, .bin .add (t 10) (Ki 1)⟩, Im 4 11]))))))
  (.seq (.reg [Im 27 3, Im 2 27])
  .ret))))
theorem fn19 : Fn Go.Proofs.Try.prog 19 28 [.inl 2] c19 :=
  ⟨⟨_, _, Go.Proofs.Try.func19, rfl, by kernel_rfl, Go.Proofs.Try.ntmps19, by kernel_rfl, ⟨fun f => impS.contains f, false, fun _ => false, false⟩, by kernel_rfl⟩⟩
def c22 : C :=
  (.seq (.reg [⟨(some 2), none, .box (t 0)⟩, ⟨(some 3), none, .box (t 1)⟩, ⟨(some 4), none, .alloc [.nils, .nils]⟩, ⟨(some 5), none, .mv (Ki 0)⟩])
  (.seq (.seq (.reg [If 9 0 3, Il 10 9, ⟨(some 11), none, .bin .neq (t 10) (k (.str [115, 117, 98, 106, 101, 99, 116]))⟩, Im 12 11, Jf 13 12 true 0 3, Jl 14 12 true 13, ⟨(some 15), (some (12, true)), .bin .neq (t 14) (k (.str [114, 101, 115, 111, 117, 114, 99, 101]))⟩, ⟨(some 16), none, .pick (t 12) (t 15) (k (.bool false))⟩, Im 17 16, Jf 18 17 false 1 3, Jl 19 17 false 18, ⟨(some 20), (some (17, false)), .bin .eql (t 19) (k (.str []))⟩, ⟨(some 21), none, .pick (t 17) (k (.bool true)) (t 20)⟩, Im 22 21, Jf 23 22 false 1 3, Jl 24 22 false 23, ⟨(some 25), (some (22, false)), .lens (t 24)⟩, ⟨(some 26), (some (22, false)), .bin .gtr (t 25) (Ki 64)⟩, ⟨(some 27), none, .pick (t 22) (k (.bool true)) (t 26)⟩, Im 28 27, Jf 29 28 false 3 3, ⟨(some 30), (some (28, false)), .load true 4 (t 29)⟩, ⟨(some 31), (some (28, false)), .pcall (k (.fn 51 [] [])) [(t 30)]⟩, ⟨(some 32), (some (28, false)), .un .not (t 31)⟩, ⟨(some 33), none, .pick (t 28) (k (.bool true)) (t 32)⟩, Im 34 33, Jf 35 34 false 3 3, Jf 36 34 false 0 35, Jl 37 34 false 36, ⟨(some 38), (some (34, false)), .bin .eql (t 37) (Ki 0)⟩, ⟨(some 39), none, .pick (t 34) (k (.bool true)) (t 38)⟩])
  (.cond (t 39)
  (.seq (.reg [Ia 40 2 2, Is 2 4 40, ⟨(some 5), none, .mv (Ki 1)⟩])
  .ret)
  .skip))
  (.seq (.reg [If 41 0 2, Il 42 41, Ia 43 7 3, Ip 44 29 [(t 42), (t 43)], Im 6 44])
  (.seq (.seq (.reg [Im 45 6, ⟨(some 46), none, .bin .neq (t 45) (Ki 0)⟩])
  (.cond (t 46)
  (.seq (.reg [Ia 47 2 2, Im 48 6, Is 2 4 47, Im 5 48])
  .ret)
  .skip))
  (.seq (.reg [Ia 49 2 2, Ia 50 7 3, Ip 51 63 [(t 49), (t 50)], Im 7 51])
  (.seq (.seq (.reg [Im 52 7, ⟨(some 53), none, .bin .lss (t 52) (Ki 0)⟩, Im 54 53, Jf 55 54 true 1 2, Jl 56 54 true 55, ⟨(some 57), (some (54, true)), .len (t 56)⟩, ⟨(some 58), (some (54, true)), .bin .geq (t 57) (Ki 120)⟩, ⟨(some 59), none, .pick (t 54) (t 58) (k (.bool false))⟩])
  (.cond (t 59)
  (.seq (.reg [Ia 60 2 2, Is 2 4 60, ⟨(some 5), none, .mv (Ki 13)⟩])
  .ret)
  .skip))
  (.seq (.reg [⟨(some 61), none, .bslm true 7 []⟩, If 62 1 2, Il 63 62, ⟨(some 64), none, .appm true false 7 104 (t 61) (t 63)⟩, Im 8 64])
  (.seq (.seq (.reg [Im 65 7, ⟨(some 66), none, .bin .lss (t 65) (Ki 0)⟩])
  (.cond (t 66)
  (.reg [Im 67 8, Ia 68 7 3, ⟨(some 69), none, .bslm true 7 [(t 68)]⟩, ⟨(some 70), none, .appm true false 7 104 (t 67) (t 69)⟩, Im 8 70])
  (.reg [Im 71 8, Im 72 7, Ia 73 7 3, ⟨(some 74), none, .iaddr 7 (t 71) (t 72)⟩, Is 7 74 73])))
  (.seq (.reg [If 75 0 2, Il 76 75, Im 77 8, ⟨(some 78), none, .build [.nils, .nils] [(0, 1, (t 76)), (1, 1, (t 77))]⟩, Is 2 4 78, ⟨(some 5), none, .mv (Ki 0)⟩])
  .ret)))))))))
theorem fn22 : Fn Go.Proofs.Try.prog 22 79 [.inr (4, true, 2), .inl 5] c22 :=
  ⟨⟨_, _, Go.Proofs.Try.func22, rfl, by kernel_rfl, Go.Proofs.Try.ntmps22, by kernel_rfl, ⟨fun f => impS.contains f, true, fun _ => false, false⟩, by kernel_rfl⟩⟩
def c84s : C :=
  (.seq (.reg [⟨(some 2), none, .mv (k .nils)⟩])
  (.seq (.seq (.reg [⟨(some 3), none, .mv (t 0)⟩, ⟨(some 4), none, .isn false (t 3)⟩])
  (.cond (t 4)
  (.seq (.reg [⟨(some 2), none, .mv (k .nils)⟩])
  .ret)
  .skip))
  (.seq (.reg [⟨(some 5), none, .bsl 4 []⟩, ⟨(some 6), none, .mv (t 0)⟩, ⟨(some 7), none, .app false 4 56 (t 5) (t 6)⟩, ⟨(some 2), none, .mv (t 7)⟩])
  .ret)))
theorem fn84s : Fn Go.Proofs.Try.prog 84 8 [.inl 2] c84s :=
  ⟨⟨_, _, Go.Proofs.Try.func84, rfl, by kernel_rfl, Go.Proofs.Try.ntmps84, by kernel_rfl, ⟨fun f => impS.contains f, false, fun _ => false, false⟩, by kernel_rfl⟩⟩
def c96 : C :=
  (.seq (.reg [⟨(some 2), none, .mv (k .nils)⟩])
  (.seq (.seq (.reg [Im 3 0, ⟨(some 4), none, .isn false (t 3)⟩])
  (.cond (t 4)
  (.seq (.reg [⟨(some 2), none, .mv (k .nils)⟩])
  .ret)
  .skip))
  (.seq (.reg [⟨(some 5), none, .bslm true 7 []⟩, Im 6 0, ⟨(some 7), none, .appm true false 7 104 (t 5) (t 6)⟩, Im 2 7])
  .ret)))
theorem fn96 : Fn Go.Proofs.Try.prog 96 8 [.inl 2] c96 :=
  ⟨⟨_, _, Go.Proofs.Try.func96, rfl, by kernel_rfl, Go.Proofs.Try.ntmps96, by kernel_rfl, ⟨fun f => impS.contains f, true, fun _ => false, false⟩, by kernel_rfl⟩⟩
def c129 : C :=
  (.seq (.reg [⟨(some 3), none, .box (t 1)⟩, ⟨(some 4), none, .mv (Ki 0)⟩, ⟨(some 5), none, .mv (Ki 0)⟩])
  (.seq (.reg [If 12 0 3, Il 13 12, Ip 14 149 [(t 13)], Im 6 14])
  (.seq (.seq (.reg [Im 15 6, ⟨(some 16), none, .bin .lss (t 15) (Ki 0)⟩, Im 17 16, Jf 18 17 false 7 3, Jl 19 17 false 18, ⟨(some 20), (some (17, false)), .len (t 19)⟩, Jm 21 17 false 6, ⟨(some 22), (some (17, false)), .bin .neq (t 20) (t 21)⟩, ⟨(some 23), none, .pick (t 17) (k (.bool true)) (t 22)⟩])
  (.cond (t 23)
  (.seq (.reg [⟨(some 4), none, .mv (Ki 0)⟩, ⟨(some 5), none, .mv (Ki 2)⟩])
  .ret)
  .skip))
  (.seq (.seq (.reg [Im 24 6, ⟨(some 25), none, .bin .eql (t 24) (Ki 0)⟩])
  (.cond (t 25)
  (.seq (.reg [Im 26 0, Ia 27 8 3, Ip 28 150 [(t 26), (t 27)], Ie 29 0 28, Ie 30 1 28, Im 4 29, Im 5 30])
  .ret)
  .skip))
  (.seq (.reg [Im 32 0, If 33 7 3, Il 34 33, ⟨(some 35), none, .iaddr 8 (t 34) (Ki 0)⟩, Ia 36 8 35, Ip 37 129 [(t 32), (t 36)], Im 31 37, Ie 38 0 31, Ie 39 1 31, Im 7 38, Im 8 39])
  (.seq (.seq (.reg [Im 40 8, ⟨(some 41), none, .bin .neq (t 40) (Ki 0)⟩])
  (.cond (t 41)
  (.seq (.reg [Im 42 8, ⟨(some 4), none, .mv (Ki 0)⟩, Im 5 42])
  .ret)
  .skip))
  (.seq (.reg [If 43 0 3, Il 44 43, Im 45 7, Ip 46 151 [(t 44), (t 45)], Im 9 46])
  (.seq (.seq (.reg [Im 47 6, ⟨(some 48), none, .bin .eql (t 47) (Ki 2)⟩])
  (.cond (t 48)
  (.seq (.reg [Im 50 0, If 51 7 3, Il 52 51, ⟨(some 53), none, .iaddr 8 (t 52) (Ki 1)⟩, Ia 54 8 53, Ip 55 129 [(t 50), (t 54)], Im 49 55, Ie 56 0 49, Ie 57 1 49, Im 10 56, Im 11 57])
  (.seq (.seq (.reg [Im 58 11, ⟨(some 59), none, .bin .neq (t 58) (Ki 0)⟩])
  (.cond (t 59)
  (.seq (.reg [Im 60 11, ⟨(some 4), none, .mv (Ki 0)⟩, Im 5 60])
  .ret)
  .skip))
  (.reg [If 61 0 3, Il 62 61, Im 63 7, Im 64 10, Ip 65 152 [(t 62), (t 63), (t 64)], Im 9 65])))
  .skip))
  (.seq (.seq (.reg [Im 66 9, ⟨(some 67), none, .bin .eql (t 66) (Ki 0)⟩])
  (.cond (t 67)
  (.seq (.reg [⟨(some 4), none, .mv (Ki 0)⟩, ⟨(some 5), none, .mv (Ki 6)⟩])
  .ret)
  .skip))
  (.seq (.reg [Im 68 9, Im 4 68, ⟨(some 5), none, .mv (Ki 0)⟩])
  .ret))))))))))
theorem fn129 : Fn Go.Proofs.Try.prog 129 69 [.inl 4, .inl 5] c129 :=
  ⟨⟨_, _, Go.Proofs.Try.func129, rfl, by kernel_rfl, Go.Proofs.Try.ntmps129, by kernel_rfl, ⟨fun f => impS.contains f, false, fun _ => false, false⟩, by kernel_rfl⟩⟩
def c133 : C :=
  (.seq (.reg [⟨(some 2), none, .mv (Ki 0)⟩])
  (.seq (.seq (.reg [Im 5 0, ⟨(some 6), none, .bin .eql (t 5) (k (.str [118, 97, 108, 117, 101]))⟩, Im 7 6, Jm 8 7 false 0, ⟨(some 9), (some (7, false)), .bin .eql (t 8) (k (.str [110, 111, 119]))⟩, ⟨(some 10), none, .pick (t 7) (k (.bool true)) (t 9)⟩, Im 11 10, Jm 12 11 false 0, ⟨(some 13), (some (11, false)), .bin .eql (t 12) (k (.str [97, 116, 116, 114]))⟩, ⟨(some 14), none, .pick (t 11) (k (.bool true)) (t 13)⟩, Im 15 14, Jm 16 15 false 0, ⟨(some 17), (some (15, false)), .bin .eql (t 16) (k (.str [104, 97, 115]))⟩, ⟨(some 18), none, .pick (t 15) (k (.bool true)) (t 17)⟩, Im 19 18, Jm 20 19 false 0, ⟨(some 21), (some (19, false)), .bin .eql (t 20) (k (.str [114, 111, 108, 101]))⟩, ⟨(some 22), none, .pick (t 19) (k (.bool true)) (t 21)⟩])
  (.cond (t 22)
  (.seq (.reg [⟨(some 2), none, .mv (Ki 0)⟩])
  .ret)
  .skip))
  (.seq (.reg [Ip 23 135 [], Im 3 23])
  (.seq (.seq (.reg [⟨(some 4), none, .mv (Ki 0)⟩])
  (.block 0
  (.loop
  (.seq (.seq (.reg [Im 24 4, Im 25 3, Iz 26 25, ⟨(some 27), none, .bin .lss (t 24) (t 26)⟩])
  (.cond (t 27)
  .skip
  (.exit 0)))
  (.seq (.block 1
  (.seq (.seq (.reg [Im 30 3, Im 31 4, ⟨(some 32), none, .iaddr 4 (t 30) (t 31)⟩, If 33 0 32, Il 34 33, Im 35 0, ⟨(some 36), none, .bin .eql (t 34) (t 35)⟩, Im 37 36, Jm 38 37 true 3, Jm 39 37 true 4, ⟨(some 40), (some (37, true)), .iaddr 4 (t 38) (t 39)⟩, Jf 41 37 true 2 40, Jl 42 37 true 41, ⟨(some 43), (some (37, true)), .bin .gtr (t 42) (Ki 0)⟩, ⟨(some 44), none, .pick (t 37) (t 43) (k (.bool false))⟩])
  (.cond (t 44)
  (.seq (.reg [⟨(some 2), none, .mv (Ki 2)⟩])
  .ret)
  .skip))
  (.seq (.reg [Im 45 3, Im 46 4, ⟨(some 47), none, .iaddr 4 (t 45) (t 46)⟩, If 48 0 47, Il 49 48, Im 50 0, ⟨(some 51), none, .bin .eql (t 49) (t 50)⟩])
  (.cond (t 51)
  (.seq (.reg [⟨(some 2), none, .mv (Ki 1)⟩])
  .ret)
  .skip))))
  (.reg [Im 28 4, ⟨(some 29), none, .bin .add (t 28) (Ki 1)⟩, Im 4 29]))))))
  (.seq (.reg [⟨(some 2), none, .mv (k (.int .i64 (-1)))⟩])
  .ret)))))
theorem fn133 : Fn Go.Proofs.Try.prog 133 52 [.inl 2] c133 :=
  ⟨⟨_, _, Go.Proofs.Try.func133, rfl, by kernel_rfl, Go.Proofs.Try.ntmps133, by kernel_rfl, ⟨fun f => impS.contains f, false, fun _ => false, false⟩, by kernel_rfl⟩⟩
def c134 : C :=
  (.seq (.reg [⟨(some 3), none, .box (t 1)⟩, ⟨(some 4), none, .mv (Ki 0)⟩, ⟨(some 5), none, .mv (Ki 0)⟩])
  (.seq (.seq (.reg [If 8 0 3, Il 9 8, ⟨(some 10), none, .bin .eql (t 9) (k (.str [110, 111, 119]))⟩])
  (.cond (t 10)
  (.seq (.reg [⟨(some 4), none, .mv (Ki 4)⟩, ⟨(some 5), none, .mv (Ki 0)⟩])
  .ret)
  .skip))
  (.seq (.seq (.reg [If 11 0 3, Il 12 11, ⟨(some 13), none, .bin .eql (t 12) (k (.str [114, 111, 108, 101]))⟩])
  (.cond (t 13)
  (.seq (.reg [⟨(some 4), none, .mv (Ki 1)⟩, ⟨(some 5), none, .mv (Ki 0)⟩])
  .ret)
  .skip))
  (.seq (.seq (.reg [If 14 0 3, Il 15 14, ⟨(some 16), none, .bin .eql (t 15) (k (.str [118, 97, 108, 117, 101]))⟩])
  (.cond (t 16)
  (.seq (.seq (.reg [If 17 1 3, Ia 18 4 17, Ip 19 51 [(t 18)], ⟨(some 20), none, .un .not (t 19)⟩, Im 21 20, Jf 22 21 false 1 3, Jf 23 21 false 0 22, Jl 24 21 false 23, ⟨(some 25), (some (21, false)), .bin .eql (t 24) (Ki 0)⟩, ⟨(some 26), none, .pick (t 21) (k (.bool true)) (t 25)⟩, Im 27 26, Jf 28 27 false 1 3, Jf 29 27 false 0 28, Jl 30 27 false 29, ⟨(some 31), (some (27, false)), .bin .eql (t 30) (Ki 5)⟩, Jm 32 27 false 31, Jf 33 32 true 1 3, Jf 34 32 true 3 33, Jl 35 32 true 34, ⟨(some 36), (some (32, true)), .len (t 35)⟩, ⟨(some 37), (some (32, true)), .bin .eql (t 36) (Ki 0)⟩, ⟨(some 38), (some (27, false)), .pick (t 32) (t 37) (k (.bool false))⟩, ⟨(some 39), none, .pick (t 27) (k (.bool true)) (t 38)⟩])
  (.cond (t 39)
  (.seq (.reg [⟨(some 4), none, .mv (Ki 0)⟩, ⟨(some 5), none, .mv (Ki 2)⟩])
  .ret)
  .skip))
  (.seq (.seq (.reg [If 40 1 3, If 41 0 40, Il 42 41, ⟨(some 43), none, .bin .eql (t 42) (Ki 5)⟩])
  (.cond (t 43)
  (.seq (.reg [If 44 1 3, If 45 3 44, Il 46 45, ⟨(some 47), none, .iaddr 4 (t 46) (Ki 0)⟩, If 48 0 47, Il 49 48, ⟨(some 50), none, .bin .add (Ki 10) (t 49)⟩, Im 4 50, ⟨(some 5), none, .mv (Ki 0)⟩])
  .ret)
  .skip))
  (.seq (.reg [If 51 1 3, If 52 0 51, Il 53 52, Im 4 53, ⟨(some 5), none, .mv (Ki 0)⟩])
  .ret)))
  .skip))
  (.seq (.seq (.reg [⟨(some 6), none, .mv (Ki 0)⟩])
  (.block 0
  (.loop
  (.seq (.seq (.reg [Im 54 6, Im 55 0, Iz 56 55, ⟨(some 57), none, .bin .lss (t 54) (t 56)⟩])
  (.cond (t 57)
  .skip
  (.exit 0)))
  (.seq (.block 1
  (.seq (.seq (.draw 0 [(Im 60 0, []), (Im 61 6, []), (⟨(some 62), none, .iaddr 4 (t 60) (t 61)⟩, []), (If 63 0 62, []), (Il 64 63, []), (If 65 5 3, []), (Il 66 65, []), (⟨(some 67), none, .bin .neq (t 64) (t 66)⟩, []), (Im 68 67, []), (Jm 69 68 false 0, []), (Jm 70 68 false 6, []), (⟨(some 71), (some (68, false)), .iaddr 4 (t 69) (t 70)⟩, []), (Jf 72 68 false 1 71, []), (Jl 73 68 false 72, []), (Jf 74 68 false 6 3, []), (Jl 75 68 false 74, []), (⟨(some 76), (some (68, false)), .bin .neq (t 73) (t 75)⟩, []), (⟨(some 77), none, .pick (t 68) (k (.bool true)) (t 76)⟩, [])])
  (.cond (t 77)
  (.exit 1)
  .skip))
  (.seq (.seq (.reg [If 78 0 3, Il 79 78, ⟨(some 80), none, .bin .eql (t 79) (k (.str [104, 97, 115]))⟩])
  (.cond (t 80)
  (.seq (.reg [Im 81 0, Im 82 6, ⟨(some 83), none, .iaddr 4 (t 81) (t 82)⟩, Ia 84 4 83, Ip 85 155 [(t 84)], ⟨(some 4), none, .mv (Ki 1)⟩, Im 5 85])
  .ret)
  .skip))
  (.seq (.reg [Im 86 0, Im 87 6, ⟨(some 88), none, .iaddr 4 (t 86) (t 87)⟩, If 89 2 88, Il 90 89, Im 7 90])
  (.seq (.seq (.reg [Im 91 0, Im 92 6, ⟨(some 93), none, .iaddr 4 (t 91) (t 92)⟩, If 94 3 93, Il 95 94])
  (.cond (t 95)
  (.reg [Im 96 7, ⟨(some 97), none, .bin .add (t 96) (Ki 10)⟩, Im 7 97])
  .skip))
  (.seq (.seq (.reg [Im 98 7, ⟨(some 99), none, .bin .eql (t 98) (Ki 0)⟩])
  (.cond (t 99)
  (.seq (.reg [⟨(some 4), none, .mv (Ki 0)⟩, ⟨(some 5), none, .mv (Ki 8)⟩])
  .ret)
  .skip))
  (.seq (.reg [Im 100 7, Im 4 100, ⟨(some 5), none, .mv (Ki 0)⟩])
  .ret)))))))
  (.reg [Im 58 6, ⟨(some 59), none, .bin .add (t 58) (Ki 1)⟩, Im 6 59]))))))
  (.seq (.reg [⟨(some 4), none, .mv (Ki 0)⟩, ⟨(some 5), none, .mv (Ki 8)⟩])
  .ret))))))
theorem fn134 : Fn Go.Proofs.Try.prog 134 101 [.inl 4, .inl 5] c134 :=
  ⟨⟨_, _, Go.Proofs.Try.func134, rfl, by kernel_rfl, Go.Proofs.Try.ntmps134, by kernel_rfl, ⟨fun f => impS.contains f, false, fun _ => false, false⟩, by kernel_rfl⟩⟩
end GP
namespace GP
open Go Go.Proofs
open Rd O
set_option maxRecDepth 100000
def c17 : C :=
  (.seq (.reg [⟨(some 4), none, .mv (k (.bool false))⟩])
  (.seq (.seq (.reg [Im 6 0, Iz 7 6, Im 8 1, Iz 9 8, ⟨(some 10), none, .bin .neq (t 7) (t 9)⟩])
  (.cond (t 10)
  (.seq (.reg [⟨(some 4), none, .mv (k (.bool false))⟩])
  .ret)
  .skip))
  (.seq (.seq (.reg [⟨(some 5), none, .mv (Ki 0)⟩])
  (.block 0
  (.loop
  (.seq (.seq (.reg [Im 11 5, Im 12 0, Iz 13 12, ⟨(some 14), none, .bin .lss (t 11) (t 13)⟩])
  (.cond (t 14)
  .skip
  (.exit 0)))
  (.seq (.block 1
  (.seq (.draw 0 [(Im 17 0, []), (Im 18 5, []), (⟨(some 19), none, .iaddr 7 (t 17) (t 18)⟩, []), (If 20 0 19, []), (Il 21 20, []), (Im 22 1, []), (Im 23 5, []), (⟨(some 24), none, .iaddr 7 (t 22) (t 23)⟩, []), (If 25 0 24, []), (Il 26 25, []), (⟨(some 27), none, .bin .neq (t 21) (t 26)⟩, []), (Im 28 27, []), (Jm 29 28 false 0, []), (Jm 30 28 false 5, []), (⟨(some 31), (some (28, false)), .iaddr 7 (t 29) (t 30)⟩, []), (Jf 32 28 false 1 31, []), (Jl 33 28 false 32, []), (Jm 34 28 false 1, []), (Jm 35 28 false 5, []), (⟨(some 36), (some (28, false)), .iaddr 7 (t 34) (t 35)⟩, []), (Jf 37 28 false 1 36, []), (Jl 38 28 false 37, []), (⟨(some 39), (some (28, false)), .bin .neq (t 33) (t 38)⟩, []), (⟨(some 40), none, .pick (t 28) (k (.bool true)) (t 39)⟩, []), (Im 41 40, []), (Jm 42 41 false 0, []), (Jm 43 41 false 5, []), (⟨(some 44), (some (41, false)), .iaddr 7 (t 42) (t 43)⟩, []), (Jf 45 41 false 2 44, []), (Jl 46 41 false 45, []), (Jm 47 41 false 1, []), (Jm 48 41 false 5, []), (⟨(some 49), (some (41, false)), .iaddr 7 (t 47) (t 48)⟩, []), (Jf 50 41 false 2 49, []), (Jl 51 41 false 50, []), (⟨(some 52), (some (41, false)), .bin .neq (t 46) (t 51)⟩, []), (⟨(some 53), none, .pick (t 41) (k (.bool true)) (t 52)⟩, []), (Im 54 53, []), (Jm 55 54 false 0, []), (Jm 56 54 false 5, []), (⟨(some 57), (some (54, false)), .iaddr 7 (t 55) (t 56)⟩, []), (Jf 58 54 false 3 57, []), (⟨(some 59), (some (54, false)), .load true 4 (t 58)⟩, []), (Jm 60 54 false 1, []), (Jm 61 54 false 5, []), (⟨(some 62), (some (54, false)), .iaddr 7 (t 60) (t 61)⟩, []), (Jf 63 54 false 3 62, []), (⟨(some 64), (some (54, false)), .load true 4 (t 63)⟩, []), (⟨(some 65), (some (54, false)), .pcall (k (.fn 38 [] [])) [(t 59), (t 64)]⟩, []), (⟨(some 66), (some (54, false)), .un .not (t 65)⟩, []), (⟨(some 67), none, .pick (t 54) (k (.bool true)) (t 66)⟩, [])])
  (.cond (t 67)
  (.seq (.reg [⟨(some 4), none, .mv (k (.bool false))⟩])
  .ret)
  .skip)))
  (.reg [Im 15 5, ⟨(some 16), none, .bin .add (t 15) (Ki 1)⟩, Im 5 16]))))))
  (.seq (.reg [⟨(some 4), none, .mv (k (.bool true))⟩])
  .ret))))
theorem fn17 : Fn Go.Proofs.Try.prog 17 68 [.inl 4] c17 :=
  ⟨⟨_, _, Go.Proofs.Try.func17, rfl, by kernel_rfl, Go.Proofs.Try.ntmps17, by kernel_rfl, ⟨fun f => impS.contains f, false, fun _ => false, false⟩, by kernel_rfl⟩⟩
def c18 : C :=
  (.seq (.reg [⟨(some 2), none, .mv (k .nils)⟩])
  (.seq (.reg [Im 3 0, In 4 3, If 5 1 4, Il 6 5, Ip 7 57 [(t 6)], Im 2 7])
  .ret))
theorem fn18 : Fn Go.Proofs.Try.prog 18 8 [.inl 2] c18 :=
  ⟨⟨_, _, Go.Proofs.Try.func18, rfl, by kernel_rfl, Go.Proofs.Try.ntmps18, by kernel_rfl, ⟨fun f => impS.contains f, false, fun _ => false, false⟩, by kernel_rfl⟩⟩
def c21 : C :=
  (.seq (.reg [⟨(some 3), none, .box (t 1)⟩, ⟨(some 4), none, .mv (Ki 0)⟩])
  (.seq (.seq (.reg [If 8 0 3, Il 9 8, ⟨(some 10), none, .bin .neq (t 9) (k (.str [115, 117, 98, 106, 101, 99, 116]))⟩, Im 11 10, Jf 12 11 true 0 3, Jl 13 11 true 12, ⟨(some 14), (some (11, true)), .bin .neq (t 13) (k (.str [114, 101, 115, 111, 117, 114, 99, 101]))⟩, ⟨(some 15), none, .pick (t 11) (t 14) (k (.bool false))⟩, Im 16 15, Jf 17 16 false 1 3, Jl 18 16 false 17, ⟨(some 19), (some (16, false)), .lens (t 18)⟩, ⟨(some 20), (some (16, false)), .bin .lss (t 19) (Ki 1)⟩, ⟨(some 21), none, .pick (t 16) (k (.bool true)) (t 20)⟩, Im 22 21, Jf 23 22 false 1 3, Jl 24 22 false 23, ⟨(some 25), (some (22, false)), .lens (t 24)⟩, ⟨(some 26), (some (22, false)), .bin .gtr (t 25) (Ki 64)⟩, ⟨(some 27), none, .pick (t 22) (k (.bool true)) (t 26)⟩, Im 28 27, Jf 29 28 false 3 3, ⟨(some 30), (some (28, false)), .load true 4 (t 29)⟩, ⟨(some 31), (some (28, false)), .pcall (k (.fn 53 [] [])) [(t 30)]⟩, ⟨(some 32), (some (28, false)), .un .not (t 31)⟩, ⟨(some 33), none, .pick (t 28) (k (.bool true)) (t 32)⟩, Im 34 33, Jf 35 34 false 3 3, Jf 36 34 false 0 35, Jl 37 34 false 36, ⟨(some 38), (some (34, false)), .bin .eql (t 37) (Ki 0)⟩, ⟨(some 39), none, .pick (t 34) (k (.bool true)) (t 38)⟩])
  (.cond (t 39)
  (.seq (.reg [⟨(some 4), none, .mv (Ki 1)⟩])
  .ret)
  .skip))
  (.seq (.seq (.draw 0 [(Im 40 0, []), (In 41 40, []), (If 42 0 41, []), (Il 43 42, []), (Ia 44 7 3, []), (Ip 45 59 [(t 43), (t 44)], []), (Im 5 45, [])])
  (.seq (.reg [Im 46 5, ⟨(some 47), none, .bin .neq (t 46) (Ki 0)⟩])
  (.cond (t 47)
  (.seq (.reg [Im 48 5, Im 4 48])
  .ret)
  .skip)))
  (.seq (.reg [Ia 49 7 3, ⟨(some 50), none, .bsl 7 [(t 49)]⟩, Ip 51 57 [(t 50)], ⟨(some 52), none, .iaddr 7 (t 51) (Ki 0)⟩, Ia 53 7 52, Is 7 3 53])
  (.seq (.draw 0 [(Im 55 0, []), (In 56 55, []), (If 57 1 56, []), (Il 58 57, []), (Ia 59 7 3, []), (Ip 60 60 [(t 58), (t 59), (k (.fn 61 [] []))], []), (Im 54 60, []), (Ie 61 0 54, []), (Ie 62 1 54, []), (Im 6 61, []), (Im 7 62, [])])
  (.seq (.block 0
  (.seq (.reg [Im 75 7, Im 74 75])
  (.cond (t 74)
  (.draw 0 [(Im 76 0, []), (In 77 76, []), (If 78 1 77, []), (Il 79 78, []), (Im 80 6, []), (Ia 81 7 3, []), (⟨(some 82), none, .iaddr 7 (t 79) (t 80)⟩, []), (Is 7 82 81, [])])
  (.seq (.reg [Im 84 0, In 85 84, If 86 1 85, Il 87 86, Iz 88 87, ⟨(some 89), none, .bin .geq (t 88) (Ki 120)⟩, Im 83 89])
  (.cond (t 83)
  (.seq (.reg [⟨(some 4), none, .mv (Ki 13)⟩])
  .ret)
  (.draw 0 [(Im 63 0, []), (Im 64 0, []), (In 65 64, []), (If 66 1 65, []), (Il 67 66, []), (Im 68 6, []), (Ia 69 7 3, []), (⟨(some 70), none, .bslq 7 [(t 69)]⟩, []), (Ic 71 62 [(t 67), (t 68), (t 70)], []), (In 72 63, []), (If 73 1 72, []), (Is 1 73 71, [])]))))))
  (.seq (.reg [⟨(some 4), none, .mv (Ki 0)⟩])
  .ret)))))))
theorem fn21 : Fn Go.Proofs.Try.prog 21 90 [.inl 4] c21 :=
  ⟨⟨_, _, Go.Proofs.Try.func21, rfl, by kernel_rfl, Go.Proofs.Try.ntmps21, by kernel_rfl, ⟨fun f => impS.contains f, false, fun _ => false, false⟩, by kernel_rfl⟩⟩
def c29 : C :=
  (.seq (.reg [⟨(some 3), none, .box (t 1)⟩, ⟨(some 4), none, .mv (Ki 0)⟩])
  (.seq (.reg [⟨(some 5), none, .mv (k (.bool false))⟩])
  (.seq (.seq (.reg [⟨(some 6), none, .mv (Ki 0)⟩])
  (.block 0
  (.loop
  (.seq (.seq (.reg [Im 7 6, Im 8 0, Iz 9 8, ⟨(some 10), none, .bin .lss (t 7) (t 9)⟩])
  (.cond (t 10)
  .skip
  (.exit 0)))
  (.seq (.block 1
  (.draw 0 [(Im 13 5, []), (Im 14 13, []), (Jm 15 14 false 0, []), (Jm 16 14 false 6, []), (⟨(some 17), (some (14, false)), .iaddr 4 (t 15) (t 16)⟩, []), (Jf 18 14 false 0 17, []), (Jl 19 14 false 18, []), (Jf 20 14 false 0 3, []), (Jl 21 14 false 20, []), (⟨(some 22), (some (14, false)), .bin .eql (t 19) (t 21)⟩, []), (Jm 23 14 false 22, []), (Jm 24 23 true 0, []), (Jm 25 23 true 6, []), (⟨(some 26), (some (23, true)), .iaddr 4 (t 24) (t 25)⟩, []), (Jf 27 23 true 1 26, []), (Jl 28 23 true 27, []), (Jf 29 23 true 2 3, []), (Jl 30 23 true 29, []), (⟨(some 31), (some (23, true)), .bin .eql (t 28) (t 30)⟩, []), (⟨(some 32), (some (14, false)), .pick (t 23) (t 31) (k (.bool false))⟩, []), (⟨(some 33), none, .pick (t 14) (k (.bool true)) (t 32)⟩, []), (Im 5 33, [])]))
  (.reg [Im 11 6, ⟨(some 12), none, .bin .add (t 11) (Ki 1)⟩, Im 6 12]))))))
  (.seq (.seq (.reg [Im 34 5, ⟨(some 35), none, .un .not (t 34)⟩])
  (.cond (t 35)
  (.seq (.reg [⟨(some 4), none, .mv (Ki 8)⟩])
  .ret)
  .skip))
  (.seq (.seq (.reg [Im 36 0, If 37 0 3, Il 38 37, If 39 2 3, Il 40 39, If 41 3 3, Ia 42 4 41, ⟨(some 43), none, .build [(.str []), (.str []), (.int .i64 0), (.int .i64 0), (.str []), .nils] [(0, 1, (t 38)), (1, 1, (t 40)), (2, 4, (t 42))]⟩, ⟨(some 44), none, .bsl 6 [(t 43)]⟩, ⟨(some 45), none, .build [(.int .i64 0), .nils, .nils] [(2, 1, (t 44))]⟩, Ip 46 66 [(t 36), (t 45)], ⟨(some 47), none, .un .not (t 46)⟩])
  (.cond (t 47)
  (.seq (.reg [⟨(some 4), none, .mv (Ki 6)⟩])
  .ret)
  .skip))
  (.seq (.reg [⟨(some 4), none, .mv (Ki 0)⟩])
  .ret))))))
theorem fn29 : Fn Go.Proofs.Try.prog 29 48 [.inl 4] c29 :=
  ⟨⟨_, _, Go.Proofs.Try.func29, rfl, by kernel_rfl, Go.Proofs.Try.ntmps29, by kernel_rfl, ⟨fun f => impS.contains f, false, fun _ => false, false⟩, by kernel_rfl⟩⟩
def c57 : C :=
  (.seq (.reg [⟨(some 2), none, .mv (k .nils)⟩])
  (.seq (.reg [Im 5 0, Ic 6 96 [(t 5)], Im 3 6])
  (.seq (.seq (.reg [Im 7 3, Iz 8 7, ⟨(some 9), none, .mv (Ki 0)⟩])
  (.block 0
  (.loop
  (.seq (.reg [⟨(some 10), none, .bin .lss (t 9) (t 8)⟩])
  (.seq (.cond (t 10)
  .skip
  (.exit 0))
  (.seq (.block 1
  (.seq (.reg [Im 11 9, Im 4 11])
  (.reg [Im 12 3, Im 13 4, Im 14 3, Im 15 4, ⟨(some 16), none, .iaddr 7 (t 14) (t 15)⟩, If 17 3 16, If 18 3 17, Il 19 18, Ip 20 84 [(t 19)], ⟨(some 21), none, .iaddr 7 (t 12) (t 13)⟩, If 22 3 21, If 23 3 22, Is 1 23 20])))
  (.reg [⟨(some 24), none, .bin .add (t 9) (Ki 1)⟩, Im 9 24])))))))
  (.seq (.reg [Im 25 3, Im 2 25])
  .ret))))
theorem fn57 : Fn Go.Proofs.Try.prog 57 26 [.inl 2] c57 :=
  ⟨⟨_, _, Go.Proofs.Try.func57, rfl, by kernel_rfl, Go.Proofs.Try.ntmps57, by kernel_rfl, ⟨fun f => impS.contains f, false, fun _ => false, false⟩, by kernel_rfl⟩⟩
def c60 : C :=
  (.seq (.reg [⟨(some 4), none, .box (t 1)⟩, ⟨(some 6), none, .mv (Ki 0)⟩, ⟨(some 7), none, .mv (k (.bool false))⟩])
  (.seq (.reg [Im 12 0, Iz 13 12, Im 8 13])
  (.seq (.reg [Im 14 8, ⟨(some 9), none, .mv (Ki 0)⟩, Im 10 14])
  (.seq (.block 0
  (.loop
  (.seq (.seq (.reg [Im 15 9, Im 16 10, ⟨(some 17), none, .bin .lss (t 15) (t 16)⟩])
  (.cond (t 17)
  .skip
  (.exit 0)))
  (.block 1
  (.seq (.reg [Im 18 9, Im 19 10, ⟨(some 20), none, .bin .add (t 18) (t 19)⟩, ⟨(some 21), none, .conv .u64 (t 20)⟩, ⟨(some 22), none, .bin .shr (t 21) (k (.int .u64 1))⟩, ⟨(some 23), none, .conv .i64 (t 22)⟩, Im 11 23])
  (.seq (.draw 0 [(Im 24 2, []), (Im 25 0, []), (Im 26 11, []), (⟨(some 27), none, .iaddr 7 (t 25) (t 26)⟩, []), (Ia 28 7 27, []), (Ia 29 7 4, []), (⟨(some 30), none, .pcall (t 24) [(t 28), (t 29)]⟩, []), (⟨(some 31), none, .bin .lss (t 30) (Ki 0)⟩, [])])
  (.cond (t 31)
  (.reg [Im 32 11, ⟨(some 33), none, .bin .add (t 32) (Ki 1)⟩, Im 9 33])
  (.reg [Im 34 11, Im 10 34]))))))))
  (.seq (.draw 0 [(Im 35 9, []), (Im 36 9, []), (Im 37 8, []), (⟨(some 38), none, .bin .lss (t 36) (t 37)⟩, []), (Im 39 38, []), (Jm 40 39 true 2, []), (Jm 41 39 true 0, []), (Jm 42 39 true 9, []), (⟨(some 43), (some (39, true)), .iaddr 7 (t 41) (t 42)⟩, []), (⟨(some 44), (some (39, true)), .load true 7 (t 43)⟩, []), (⟨(some 45), (some (39, true)), .load true 7 (t 4)⟩, []), (⟨(some 46), (some (39, true)), .pcall (t 40) [(t 44), (t 45)]⟩, []), (⟨(some 47), (some (39, true)), .bin .eql (t 46) (Ki 0)⟩, []), (⟨(some 48), none, .pick (t 39) (t 47) (k (.bool false))⟩, []), (Im 6 35, []), (Im 7 48, [])])
  .ret)))))
theorem fn60 : Fn Go.Proofs.Try.prog 60 49 [.inl 6, .inl 7] c60 :=
  ⟨⟨_, _, Go.Proofs.Try.func60, rfl, by kernel_rfl, Go.Proofs.Try.ntmps60, by kernel_rfl, ⟨fun f => impS.contains f, false, fun _ => false, false⟩, by kernel_rfl⟩⟩
def c135 : C :=
  (.seq (.reg [⟨(some 0), none, .mv (k .nils)⟩])
  (.seq (.reg [⟨(some 4), none, .build [(.str []), (.int .i64 0), (.int .i64 0), (.int .i64 0)] [(0, 1, (k (.str [110, 111, 116]))), (1, 1, (Ki 1)), (3, 1, (Ki 1))]⟩, ⟨(some 5), none, .build [(.str []), (.int .i64 0), (.int .i64 0), (.int .i64 0)] [(0, 1, (k (.str [110, 101, 103]))), (1, 1, (Ki 2)), (3, 1, (Ki 2))]⟩, ⟨(some 6), none, .build [(.str []), (.int .i64 0), (.int .i64 0), (.int .i64 0)] [(0, 1, (k (.str [97, 110, 100]))), (1, 1, (Ki 1)), (2, 1, (Ki 1)), (3, 1, (Ki 1))]⟩, ⟨(some 7), none, .build [(.str []), (.int .i64 0), (.int .i64 0), (.int .i64 0)] [(0, 1, (k (.str [111, 114]))), (1, 1, (Ki 1)), (2, 1, (Ki 1)), (3, 1, (Ki 1))]⟩, ⟨(some 8), none, .build [(.str []), (.int .i64 0), (.int .i64 0), (.int .i64 0)] [(0, 1, (k (.str [43]))), (1, 1, (Ki 2)), (2, 1, (Ki 2)), (3, 1, (Ki 2))]⟩, ⟨(some 9), none, .build [(.str []), (.int .i64 0), (.int .i64 0), (.int .i64 0)] [(0, 1, (k (.str [45]))), (1, 1, (Ki 2)), (2, 1, (Ki 2)), (3, 1, (Ki 2))]⟩, ⟨(some 10), none, .build [(.str []), (.int .i64 0), (.int .i64 0), (.int .i64 0)] [(0, 1, (k (.str [42]))), (1, 1, (Ki 2)), (2, 1, (Ki 2)), (3, 1, (Ki 2))]⟩, ⟨(some 11), none, .build [(.str []), (.int .i64 0), (.int .i64 0), (.int .i64 0)] [(0, 1, (k (.str [43]))), (1, 1, (Ki 4)), (2, 1, (Ki 2)), (3, 1, (Ki 4))]⟩, ⟨(some 12), none, .build [(.str []), (.int .i64 0), (.int .i64 0), (.int .i64 0)] [(0, 1, (k (.str [45]))), (1, 1, (Ki 4)), (2, 1, (Ki 2)), (3, 1, (Ki 4))]⟩, ⟨(some 13), none, .build [(.str []), (.int .i64 0), (.int .i64 0), (.int .i64 0)] [(0, 1, (k (.str [45]))), (1, 1, (Ki 4)), (2, 1, (Ki 4)), (3, 1, (Ki 2))]⟩, ⟨(some 14), none, .bsl 4 [(t 4), (t 5), (t 6), (t 7), (t 8), (t 9), (t 10), (t 11), (t 12), (t 13)]⟩, Im 1 14])
  (.seq (.seq (.reg [⟨(some 2), none, .mv (Ki 1)⟩])
  (.block 0
  (.loop
  (.seq (.seq (.reg [Im 15 2, ⟨(some 16), none, .bin .leq (t 15) (Ki 4)⟩])
  (.cond (t 16)
  .skip
  (.exit 0)))
  (.seq (.block 1
  (.reg [Im 19 1, Im 20 2, ⟨(some 21), none, .bin .add (Ki 10) (t 20)⟩, ⟨(some 22), none, .build [(.str []), (.int .i64 0), (.int .i64 0), (.int .i64 0)] [(0, 1, (k (.str [115, 105, 122, 101]))), (1, 1, (t 21)), (3, 1, (Ki 2))]⟩, Im 23 2, Im 24 2, ⟨(some 25), none, .bin .add (Ki 10) (t 24)⟩, ⟨(some 26), none, .build [(.str []), (.int .i64 0), (.int .i64 0), (.int .i64 0)] [(0, 1, (k (.str [105, 110]))), (1, 1, (t 23)), (2, 1, (t 25)), (3, 1, (Ki 1))]⟩, Im 27 2, Im 28 2, ⟨(some 29), none, .build [(.str []), (.int .i64 0), (.int .i64 0), (.int .i64 0)] [(0, 1, (k (.str [61, 61]))), (1, 1, (t 27)), (2, 1, (t 28)), (3, 1, (Ki 1))]⟩, Im 30 2, Im 31 2, ⟨(some 32), none, .build [(.str []), (.int .i64 0), (.int .i64 0), (.int .i64 0)] [(0, 1, (k (.str [33, 61]))), (1, 1, (t 30)), (2, 1, (t 31)), (3, 1, (Ki 1))]⟩, Im 33 2, ⟨(some 34), none, .bin .add (Ki 10) (t 33)⟩, Im 35 2, ⟨(some 36), none, .bin .add (Ki 10) (t 35)⟩, ⟨(some 37), none, .build [(.str []), (.int .i64 0), (.int .i64 0), (.int .i64 0)] [(0, 1, (k (.str [61, 61]))), (1, 1, (t 34)), (2, 1, (t 36)), (3, 1, (Ki 1))]⟩, Im 38 2, ⟨(some 39), none, .bin .add (Ki 10) (t 38)⟩, Im 40 2, ⟨(some 41), none, .bin .add (Ki 10) (t 40)⟩, ⟨(some 42), none, .build [(.str []), (.int .i64 0), (.int .i64 0), (.int .i64 0)] [(0, 1, (k (.str [33, 61]))), (1, 1, (t 39)), (2, 1, (t 41)), (3, 1, (Ki 1))]⟩, ⟨(some 43), none, .bsl 4 [(t 22), (t 26), (t 29), (t 32), (t 37), (t 42)]⟩, ⟨(some 44), none, .app false 4 40 (t 19) (t 43)⟩, Im 1 44]))
  (.reg [Im 17 2, ⟨(some 18), none, .bin .add (t 17) (Ki 1)⟩, Im 2 18]))))))
  (.seq (.seq (.reg [⟨(some 3), none, .mv (Ki 2)⟩])
  (.block 2
  (.loop
  (.seq (.seq (.reg [Im 45 3, ⟨(some 46), none, .bin .leq (t 45) (Ki 4)⟩])
  (.cond (t 46)
  .skip
  (.exit 2)))
  (.seq (.block 3
  (.reg [Im 49 1, Im 50 3, Im 51 3, ⟨(some 52), none, .build [(.str []), (.int .i64 0), (.int .i64 0), (.int .i64 0)] [(0, 1, (k (.str [60]))), (1, 1, (t 50)), (2, 1, (t 51)), (3, 1, (Ki 1))]⟩, Im 53 3, Im 54 3, ⟨(some 55), none, .build [(.str []), (.int .i64 0), (.int .i64 0), (.int .i64 0)] [(0, 1, (k (.str [60, 61]))), (1, 1, (t 53)), (2, 1, (t 54)), (3, 1, (Ki 1))]⟩, Im 56 3, Im 57 3, ⟨(some 58), none, .build [(.str []), (.int .i64 0), (.int .i64 0), (.int .i64 0)] [(0, 1, (k (.str [62]))), (1, 1, (t 56)), (2, 1, (t 57)), (3, 1, (Ki 1))]⟩, Im 59 3, Im 60 3, ⟨(some 61), none, .build [(.str []), (.int .i64 0), (.int .i64 0), (.int .i64 0)] [(0, 1, (k (.str [62, 61]))), (1, 1, (t 59)), (2, 1, (t 60)), (3, 1, (Ki 1))]⟩, ⟨(some 62), none, .bsl 4 [(t 52), (t 55), (t 58), (t 61)]⟩, ⟨(some 63), none, .app false 4 40 (t 49) (t 62)⟩, Im 1 63]))
  (.reg [Im 47 3, ⟨(some 48), none, .bin .add (t 47) (Ki 1)⟩, Im 3 48]))))))
  (.seq (.reg [Im 64 1, Im 0 64])
  .ret)))))
theorem fn135 : Fn Go.Proofs.Try.prog 135 65 [.inl 0] c135 :=
  ⟨⟨_, _, Go.Proofs.Try.func135, rfl, by kernel_rfl, Go.Proofs.Try.ntmps135, by kernel_rfl, ⟨fun f => impS.contains f, false, fun _ => false, false⟩, by kernel_rfl⟩⟩
def c155 : C :=
  (.seq (.reg [⟨(some 1), none, .box (t 0)⟩, ⟨(some 2), none, .mv (Ki 0)⟩])
  (.seq (.seq (.reg [If 3 2 1, Il 4 3, ⟨(some 5), none, .bin .eql (t 4) (Ki 0)⟩, Im 6 5, Jf 7 6 true 3 1, Jl 8 6 true 7, ⟨(some 9), (some (6, true)), .un .not (t 8)⟩, ⟨(some 10), none, .pick (t 6) (t 9) (k (.bool false))⟩])
  (.cond (t 10)
  (.seq (.reg [⟨(some 2), none, .mv (Ki 8)⟩])
  .ret)
  .skip))
  (.seq (.reg [⟨(some 2), none, .mv (Ki 0)⟩])
  .ret)))
theorem fn155 : Fn Go.Proofs.Try.prog 155 11 [.inl 2] c155 :=
  ⟨⟨_, _, Go.Proofs.Try.func155, rfl, by kernel_rfl, Go.Proofs.Try.ntmps155, by kernel_rfl, ⟨fun f => impS.contains f, false, fun _ => false, false⟩, by kernel_rfl⟩⟩
def c171 : C :=
  (.seq (.reg [⟨(some 6), none, .mv (Ki 0)⟩])
  (.seq (.seq (.reg [Im 9 0, Iz 10 9, ⟨(some 11), none, .mv (Ki 0)⟩])
  (.block 0
  (.loop
  (.seq (.reg [⟨(some 12), none, .bin .lss (t 11) (t 10)⟩])
  (.seq (.cond (t 12)
  .skip
  (.exit 0))
  (.seq (.block 1
  (.seq (.reg [⟨(some 13), none, .iaddr 4 (t 9) (t 11)⟩, Ia 14 4 13, ⟨(some 8), none, .alloc [(.str []), (.str []), (.int .i64 0), (.bool false)]⟩, Is 4 8 14])
  (.seq (.reg [If 15 0 8, Il 16 15, Im 17 1, ⟨(some 18), none, .bin .eql (t 16) (t 17)⟩, Im 19 18, Jf 20 19 true 1 8, Jl 21 19 true 20, Jm 22 19 true 2, ⟨(some 23), (some (19, true)), .bin .eql (t 21) (t 22)⟩, ⟨(some 24), none, .pick (t 19) (t 23) (k (.bool false))⟩])
  (.cond (t 24)
  (.seq (.seq (.reg [If 25 3 8, Il 26 25])
  (.cond (t 26)
  (.seq (.reg [If 27 2 8, Il 28 27, ⟨(some 29), none, .bin .add (Ki 10) (t 28)⟩, Im 6 29])
  .ret)
  .skip))
  (.seq (.reg [If 30 2 8, Il 31 30, Im 6 31])
  .ret))
  .skip))))
  (.reg [⟨(some 32), none, .bin .add (t 11) (Ki 1)⟩, Im 11 32])))))))
  (.seq (.reg [⟨(some 6), none, .mv (Ki 0)⟩])
  .ret)))
theorem fn171 : Fn Go.Proofs.Try.prog 171 33 [.inl 6] c171 :=
  ⟨⟨_, _, Go.Proofs.Try.func171, rfl, by kernel_rfl, Go.Proofs.Try.ntmps171, by kernel_rfl, ⟨fun f => impS.contains f, false, fun _ => false, false⟩, by kernel_rfl⟩⟩
end GP
namespace GP
open Go Go.Proofs
open Rd O
set_option maxRecDepth 100000
def c4 : C :=
  (.seq (.reg [⟨(some 4), none, .mv (k (.bool false))⟩])
  (.seq (.seq (.reg [Ic 12 14 [], ⟨(some 13), none, .un .not (t 12)⟩, Im 14 13, Jm 15 14 false 0, Jm 16 14 false 1, ⟨(some 17), (some (14, false)), .pcall (k (.fn 15 [] [])) [(t 15), (t 16), (Ki 150)]⟩, ⟨(some 18), (some (14, false)), .un .not (t 17)⟩, ⟨(some 19), none, .pick (t 14) (k (.bool true)) (t 18)⟩])
  (.cond (t 19)
  (.seq (.reg [Ic 20 14 [], Im 4 20])
  .ret)
  .skip))
  (.seq (.reg [Im 21 0, Ip 22 19 [(t 21)], Im 5 22])
  (.seq (.reg [Im 23 5, Ic 24 20 [(t 23)], Im 25 5, ⟨(some 26), none, .build [.nils, .nils] [(0, 1, (t 25))]⟩, ⟨(some 7), none, .alloc [.nils, .nils]⟩, Im 6 24, Is 2 7 26])
  (.seq (.seq (.reg [⟨(some 8), none, .mv (Ki 0)⟩])
  (.block 0
  (.loop
  (.seq (.seq (.reg [Im 27 8, Im 28 1, Iz 29 28, ⟨(some 30), none, .bin .lss (t 27) (t 29)⟩])
  (.cond (t 30)
  .skip
  (.exit 0)))
  (.seq (.block 1
  (.seq (.reg [⟨(some 9), none, .alloc [.nils, .nils]⟩])
  (.seq (.reg [⟨(some 10), none, .mv (Ki 0)⟩, ⟨(some 11), none, .mv (Ki 0)⟩])
  (.seq (.seq (.reg [Im 33 1, Im 34 8, ⟨(some 35), none, .iaddr 8 (t 33) (t 34)⟩, If 36 0 35, Il 37 36, ⟨(some 38), none, .bin .rem (t 37) (k (.int .u8 2))⟩, ⟨(some 39), none, .bin .eql (t 38) (k (.int .u8 0))⟩])
  (.cond (t 39)
  (.seq (.reg [Im 40 6, Im 41 1, Im 42 8, ⟨(some 43), none, .iaddr 8 (t 41) (t 42)⟩, If 44 1 43, Ia 45 7 44, Ic 46 21 [(t 40), (t 45)], Im 10 46])
  (.draw 0 [(Ia 48 2 7, []), (Im 49 1, []), (Im 50 8, []), (⟨(some 51), none, .iaddr 8 (t 49) (t 50)⟩, []), (If 52 1 51, []), (Ia 53 7 52, []), (Ip 54 22 [(t 48), (t 53)], []), (Im 47 54, []), (Ie 55 0 47, []), (Ie 56 1 47, []), (Is 2 9 55, []), (Im 11 56, [])]))
  (.seq (.reg [Im 57 6, Im 58 1, Im 59 8, ⟨(some 60), none, .iaddr 8 (t 58) (t 59)⟩, If 61 1 60, Ia 62 7 61, Ic 63 23 [(t 57), (t 62)], Im 10 63])
  (.draw 0 [(Ia 65 2 7, []), (Im 66 1, []), (Im 67 8, []), (⟨(some 68), none, .iaddr 8 (t 66) (t 67)⟩, []), (If 69 1 68, []), (Ia 70 7 69, []), (Ip 71 24 [(t 65), (t 70)], []), (Im 64 71, []), (Ie 72 0 64, []), (Ie 73 1 64, []), (Is 2 9 72, []), (Im 11 73, [])]))))
  (.seq (.seq (.reg [Im 74 10, Im 75 11, ⟨(some 76), none, .bin .neq (t 74) (t 75)⟩])
  (.cond (t 76)
  (.seq (.reg [⟨(some 4), none, .mv (k (.bool false))⟩])
  .ret)
  .skip))
  (.reg [Ia 77 2 9, Is 2 7 77]))))))
  (.reg [Im 31 8, ⟨(some 32), none, .bin .add (t 31) (Ki 1)⟩, Im 8 32]))))))
  (.seq (.draw 0 [(Im 78 6, []), (Ip 79 18 [(t 78)], []), (Ia 80 2 7, []), (Ip 81 25 [(t 80)], []), (Ip 82 17 [(t 79), (t 81)], []), (Im 83 82, []), (Jm 84 83 true 6, []), (⟨(some 85), (some (83, true)), .pcall (k (.fn 26 [] [])) [(t 84)]⟩, []), (⟨(some 86), (some (83, true)), .len (t 85)⟩, []), (Jm 87 83 true 5, []), (⟨(some 88), (some (83, true)), .len (t 87)⟩, []), (⟨(some 89), (some (83, true)), .bin .eql (t 86) (t 88)⟩, []), (⟨(some 90), none, .pick (t 83) (t 89) (k (.bool false))⟩, []), (Im 4 90, [])])
  .ret))))))
def c14 : C :=
  (.seq (.reg [⟨(some 0), none, .mv (k (.bool false))⟩])
  (.seq (.reg [⟨(some 2), none, .build [(.str []), (.str []), (.int .i64 0), (.bool false)] [(0, 1, (k (.str [115, 117, 98, 106, 101, 99, 116]))), (1, 1, (k (.str [97]))), (2, 1, (Ki 2))]⟩, ⟨(some 3), none, .bsl 4 [(t 2)]⟩, Ic 4 20 [(t 3)], Im 1 4])
  (.seq (.reg [Im 5 1, ⟨(some 6), none, .eq1 .ptr true (t 5) (k .nilp)⟩, Im 7 6, Jm 8 7 true 1, ⟨(some 9), (some (7, true)), .build [(.int .i64 0), (.int .i64 0), (.str []), .nils] [(0, 1, (Ki 2)), (1, 1, (Ki 5))]⟩, ⟨(some 10), (some (7, true)), .build [(.str []), (.str []), (.str []), (.int .i64 0), (.int .i64 0), (.str []), .nils] [(0, 1, (k (.str [115, 117, 98, 106, 101, 99, 116]))), (1, 1, (k (.str [97, 110, 110]))), (2, 1, (k (.str [97]))), (3, 4, (t 9))]⟩, ⟨(some 11), (some (7, true)), .call (k (.fn 21 [] [])) [(t 8), (t 10)]⟩, ⟨(some 12), (some (7, true)), .bin .eql (t 11) (Ki 0)⟩, ⟨(some 13), none, .pick (t 7) (t 12) (k (.bool false))⟩, Im 14 13, Jm 15 14 true 1, ⟨(some 16), (some (14, true)), .pcall (k (.fn 18 [] [])) [(t 15)]⟩, ⟨(some 17), (some (14, true)), .len (t 16)⟩, ⟨(some 18), (some (14, true)), .bin .eql (t 17) (Ki 1)⟩, ⟨(some 19), none, .pick (t 14) (t 18) (k (.bool false))⟩, Im 0 19])
  .ret)))
theorem fn14 : Fn Go.Proofs.Try.prog 14 20 [.inl 0] c14 :=
  ⟨⟨_, _, Go.Proofs.Try.func14, rfl, by kernel_rfl, Go.Proofs.Try.ntmps14, by kernel_rfl, ⟨fun f => impS.contains f, false, fun _ => false, false⟩, by kernel_rfl⟩⟩
def c59 : C :=
  (.seq (.reg [⟨(some 3), none, .box (t 1)⟩, ⟨(some 4), none, .mv (Ki 0)⟩])
  (.seq (.seq (.reg [Im 5 0, ⟨(some 6), none, .mkfn 98 [] [(t 3)]⟩, Ip 7 97 [(t 5), (t 6)], ⟨(some 8), none, .un .not (t 7)⟩])
  (.cond (t 8)
  (.seq (.reg [⟨(some 4), none, .mv (Ki 8)⟩])
  .ret)
  .skip))
  (.seq (.seq (.reg [Im 9 0, If 10 0 3, Il 11 10, If 12 2 3, Il 13 12, If 14 3 3, Ia 15 4 14, ⟨(some 16), none, .build [(.str []), (.str []), (.int .i64 0), (.int .i64 0), (.str []), .nils] [(0, 1, (t 11)), (1, 1, (t 13)), (2, 4, (t 15))]⟩, ⟨(some 17), none, .bsl 6 [(t 16)]⟩, ⟨(some 18), none, .build [(.int .i64 0), .nils, .nils] [(2, 1, (t 17))]⟩, Ip 19 99 [(t 9), (t 18)], ⟨(some 20), none, .un .not (t 19)⟩])
  (.cond (t 20)
  (.seq (.reg [⟨(some 4), none, .mv (Ki 6)⟩])
  .ret)
  .skip))
  (.seq (.reg [⟨(some 4), none, .mv (Ki 0)⟩])
  .ret))))
theorem fn59 : Fn Go.Proofs.Try.prog 59 21 [.inl 4] c59 :=
  ⟨⟨_, _, Go.Proofs.Try.func59, rfl, by kernel_rfl, Go.Proofs.Try.ntmps59, by kernel_rfl, ⟨fun f => impS.contains f, false, fun _ => false, false⟩, by kernel_rfl⟩⟩
def c63 : C :=
  (.seq (.reg [⟨(some 2), none, .box (t 0)⟩, ⟨(some 3), none, .box (t 1)⟩, ⟨(some 4), none, .mv (Ki 0)⟩])
  (.seq (.seq (.reg [⟨(some 5), none, .mv (Ki 0)⟩])
  (.block 0
  (.loop
  (.seq (.seq (.reg [Im 6 5, If 7 1 2, Il 8 7, Iz 9 8, ⟨(some 10), none, .bin .lss (t 6) (t 9)⟩])
  (.cond (t 10)
  .skip
  (.exit 0)))
  (.seq (.block 1
  (.seq (.draw 0 [(If 13 1 2, []), (Il 14 13, []), (Im 15 5, []), (⟨(some 16), none, .iaddr 7 (t 14) (t 15)⟩, []), (If 17 0 16, []), (Il 18 17, []), (If 19 0 3, []), (Il 20 19, []), (⟨(some 21), none, .bin .eql (t 18) (t 20)⟩, []), (Im 22 21, []), (Jf 23 22 true 1 2, []), (Jl 24 22 true 23, []), (Jm 25 22 true 5, []), (⟨(some 26), (some (22, true)), .iaddr 7 (t 24) (t 25)⟩, []), (Jf 27 22 true 1 26, []), (Jl 28 22 true 27, []), (Jf 29 22 true 1 3, []), (Jl 30 22 true 29, []), (⟨(some 31), (some (22, true)), .bin .eql (t 28) (t 30)⟩, []), (⟨(some 32), none, .pick (t 22) (t 31) (k (.bool false))⟩, []), (Im 33 32, []), (Jf 34 33 true 1 2, []), (Jl 35 33 true 34, []), (Jm 36 33 true 5, []), (⟨(some 37), (some (33, true)), .iaddr 7 (t 35) (t 36)⟩, []), (Jf 38 33 true 2 37, []), (Jl 39 33 true 38, []), (Jf 40 33 true 2 3, []), (Jl 41 33 true 40, []), (⟨(some 42), (some (33, true)), .bin .eql (t 39) (t 41)⟩, []), (⟨(some 43), none, .pick (t 33) (t 42) (k (.bool false))⟩, [])])
  (.cond (t 43)
  (.seq (.reg [Im 44 5, Im 4 44])
  .ret)
  .skip)))
  (.reg [Im 11 5, ⟨(some 12), none, .bin .add (t 11) (Ki 1)⟩, Im 5 12]))))))
  (.seq (.reg [⟨(some 4), none, .mv (k (.int .i64 (-1)))⟩])
  .ret)))
theorem fn63 : Fn Go.Proofs.Try.prog 63 45 [.inl 4] c63 :=
  ⟨⟨_, _, Go.Proofs.Try.func63, rfl, by kernel_rfl, Go.Proofs.Try.ntmps63, by kernel_rfl, ⟨fun f => impS.contains f, false, fun _ => false, false⟩, by kernel_rfl⟩⟩
def c66 : C :=
  (.seq (.reg [⟨(some 3), none, .box (t 1)⟩, ⟨(some 4), none, .mv (k (.bool false))⟩])
  (.seq (.seq (.reg [Ia 10 3 3, Ip 11 104 [(t 10)], ⟨(some 12), none, .un .not (t 11)⟩])
  (.cond (t 12)
  (.seq (.reg [⟨(some 4), none, .mv (k (.bool false))⟩])
  .ret)
  .skip))
  (.seq (.seq (.reg [⟨(some 5), none, .mv (Ki 0)⟩])
  (.block 0
  (.loop
  (.seq (.seq (.reg [Im 13 5, If 14 2 3, Il 15 14, Iz 16 15, ⟨(some 17), none, .bin .lss (t 13) (t 16)⟩])
  (.cond (t 17)
  .skip
  (.exit 0)))
  (.seq (.block 1
  (.seq (.reg [If 20 2 3, Il 21 20, Im 22 5, ⟨(some 23), none, .iaddr 6 (t 21) (t 22)⟩, Ia 24 6 23, ⟨(some 6), none, .alloc [(.str []), (.str []), (.int .i64 0), (.int .i64 0), (.str []), .nils]⟩, Is 6 6 24])
  (.seq (.reg [Im 26 0, If 27 0 6, Il 28 27, If 29 1 6, Il 30 29, ⟨(some 31), none, .build [(.str []), (.int .i64 0), (.int .i64 0), (.str []), .nils, (.str []), (.str []), .nils] [(0, 1, (k (.str [97, 116, 116, 114]))), (5, 1, (t 28)), (6, 1, (t 30))]⟩, Ip 32 105 [(t 26), (t 31)], Im 25 32, Ie 33 0 25, Ie 34 1 25, Im 7 33, Im 8 34])
  (.seq (.seq (.reg [Im 35 8, ⟨(some 36), none, .bin .neq (t 35) (Ki 0)⟩])
  (.cond (t 36)
  (.seq (.reg [⟨(some 4), none, .mv (k (.bool false))⟩])
  .ret)
  .skip))
  (.seq (.reg [If 37 2 6, If 38 0 37, Il 39 38, Im 9 39])
  (.seq (.seq (.reg [Im 40 9, ⟨(some 41), none, .bin .eql (t 40) (Ki 5)⟩, Im 42 41, Jf 43 42 true 2 6, Jf 44 42 true 3 43, Jl 45 42 true 44, ⟨(some 46), (some (42, true)), .len (t 45)⟩, ⟨(some 47), (some (42, true)), .bin .gtr (t 46) (Ki 0)⟩, ⟨(some 48), none, .pick (t 42) (t 47) (k (.bool false))⟩])
  (.cond (t 48)
  (.reg [If 49 2 6, If 50 3 49, Il 51 50, ⟨(some 52), none, .iaddr 4 (t 51) (Ki 0)⟩, If 53 0 52, Il 54 53, ⟨(some 55), none, .bin .add (Ki 10) (t 54)⟩, Im 9 55])
  .skip))
  (.seq (.reg [Im 56 9, Im 57 7, ⟨(some 58), none, .bin .neq (t 56) (t 57)⟩, Im 59 58, Jm 60 59 true 9, ⟨(some 61), (some (59, true)), .bin .eql (t 60) (Ki 5)⟩, Jm 62 59 true 61, Jm 63 62 true 7, ⟨(some 64), (some (62, true)), .bin .gtr (t 63) (Ki 10)⟩, ⟨(some 65), (some (59, true)), .pick (t 62) (t 64) (k (.bool false))⟩, ⟨(some 66), (some (59, true)), .un .not (t 65)⟩, ⟨(some 67), none, .pick (t 59) (t 66) (k (.bool false))⟩])
  (.cond (t 67)
  (.seq (.reg [⟨(some 4), none, .mv (k (.bool false))⟩])
  .ret)
  .skip))))))))
  (.reg [Im 18 5, ⟨(some 19), none, .bin .add (t 18) (Ki 1)⟩, Im 5 19]))))))
  (.seq (.reg [⟨(some 4), none, .mv (k (.bool true))⟩])
  .ret))))
theorem fn66 : Fn Go.Proofs.Try.prog 66 68 [.inl 4] c66 :=
  ⟨⟨_, _, Go.Proofs.Try.func66, rfl, by kernel_rfl, Go.Proofs.Try.ntmps66, by kernel_rfl, ⟨fun f => impS.contains f, false, fun _ => false, false⟩, by kernel_rfl⟩⟩
def c98 : C :=
  (.seq (.reg [⟨(some 2), none, .box (t 0)⟩, ⟨(some 3), none, .mv (k (.bool false))⟩])
  (.seq (.reg [If 4 0 2, Il 5 4, If 6 0 1, Il 7 6, ⟨(some 8), none, .bin .eql (t 5) (t 7)⟩, Im 9 8, Jf 10 9 true 1 2, Jl 11 9 true 10, Jf 12 9 true 2 1, Jl 13 9 true 12, ⟨(some 14), (some (9, true)), .bin .eql (t 11) (t 13)⟩, ⟨(some 15), none, .pick (t 9) (t 14) (k (.bool false))⟩, Im 3 15])
  .ret))
theorem fn98 : Fn Go.Proofs.Try.prog 98 16 [.inl 3] c98 :=
  ⟨⟨_, _, Go.Proofs.Try.func98, rfl, by kernel_rfl, Go.Proofs.Try.ntmps98, by kernel_rfl, ⟨fun f => impS.contains f, false, fun _ => false, false⟩, by kernel_rfl⟩⟩
def c105 : C :=
  (.seq (.reg [⟨(some 3), none, .box (t 1)⟩, ⟨(some 4), none, .mv (Ki 0)⟩, ⟨(some 5), none, .mv (Ki 0)⟩])
  (.seq (.reg [If 13 0 3, Il 14 13, Ip 15 133 [(t 14)], Im 6 15])
  (.seq (.seq (.reg [Im 16 6, ⟨(some 17), none, .bin .lss (t 16) (Ki 0)⟩, Im 18 17, Jf 19 18 false 7 3, Jl 20 18 false 19, ⟨(some 21), (some (18, false)), .len (t 20)⟩, Jm 22 18 false 6, ⟨(some 23), (some (18, false)), .bin .neq (t 21) (t 22)⟩, ⟨(some 24), none, .pick (t 18) (k (.bool true)) (t 23)⟩])
  (.cond (t 24)
  (.seq (.reg [⟨(some 4), none, .mv (Ki 0)⟩, ⟨(some 5), none, .mv (Ki 2)⟩])
  .ret)
  .skip))
  (.seq (.seq (.reg [Im 25 6, ⟨(some 26), none, .bin .eql (t 25) (Ki 0)⟩])
  (.cond (t 26)
  (.seq (.reg [Im 27 0, Ia 28 8 3, Ip 29 134 [(t 27), (t 28)], Ie 30 0 29, Ie 31 1 29, Im 4 30, Im 5 31])
  .ret)
  .skip))
  (.seq (.reg [⟨(some 32), none, .build [(.int .i64 0), (.int .i64 0)] []⟩, ⟨(some 7), none, .alloc [(.int .i64 0), (.int .i64 0)]⟩, Is 2 7 32])
  (.seq (.seq (.reg [⟨(some 8), none, .mv (Ki 0)⟩])
  (.block 0
  (.loop
  (.seq (.seq (.reg [Im 33 8, Im 34 6, ⟨(some 35), none, .bin .lss (t 33) (t 34)⟩])
  (.cond (t 35)
  .skip
  (.exit 0)))
  (.seq (.block 1
  (.seq (.reg [Im 39 0, If 40 7 3, Il 41 40, Im 42 8, ⟨(some 43), none, .iaddr 8 (t 41) (t 42)⟩, Ia 44 8 43, Ip 45 105 [(t 39), (t 44)], Im 38 45, Ie 46 0 38, Ie 47 1 38, Im 9 46, Im 10 47])
  (.seq (.seq (.reg [Im 48 10, ⟨(some 49), none, .bin .neq (t 48) (Ki 0)⟩])
  (.cond (t 49)
  (.seq (.reg [Im 50 10, ⟨(some 4), none, .mv (Ki 0)⟩, Im 5 50])
  .ret)
  .skip))
  (.reg [Im 51 8, Im 52 9, ⟨(some 53), none, .iarr 1 2 (t 7) (t 51)⟩, Is 1 53 52]))))
  (.reg [Im 36 8, ⟨(some 37), none, .bin .add (t 36) (Ki 1)⟩, Im 8 37]))))))
  (.seq (.reg [Ip 54 135 [], Im 11 54])
  (.seq (.seq (.reg [⟨(some 12), none, .mv (Ki 0)⟩])
  (.block 2
  (.loop
  (.seq (.seq (.reg [Im 55 12, Im 56 11, Iz 57 56, ⟨(some 58), none, .bin .lss (t 55) (t 57)⟩])
  (.cond (t 58)
  .skip
  (.exit 2)))
  (.seq (.block 3
  (.seq (.draw 0 [(Im 61 11, []), (Im 62 12, []), (⟨(some 63), none, .iaddr 4 (t 61) (t 62)⟩, []), (If 64 0 63, []), (Il 65 64, []), (If 66 0 3, []), (Il 67 66, []), (⟨(some 68), none, .bin .eql (t 65) (t 67)⟩, []), (Im 69 68, []), (Jm 70 69 true 11, []), (Jm 71 69 true 12, []), (⟨(some 72), (some (69, true)), .iaddr 4 (t 70) (t 71)⟩, []), (Jf 73 69 true 1 72, []), (Jl 74 69 true 73, []), (⟨(some 75), (some (69, true)), .iarr 1 2 (t 7) (Ki 0)⟩, []), (Jl 76 69 true 75, []), (⟨(some 77), (some (69, true)), .bin .eql (t 74) (t 76)⟩, []), (⟨(some 78), none, .pick (t 69) (t 77) (k (.bool false))⟩, []), (Im 79 78, []), (Jm 80 79 true 11, []), (Jm 81 79 true 12, []), (⟨(some 82), (some (79, true)), .iaddr 4 (t 80) (t 81)⟩, []), (Jf 83 79 true 2 82, []), (Jl 84 79 true 83, []), (⟨(some 85), (some (79, true)), .iarr 1 2 (t 7) (Ki 1)⟩, []), (Jl 86 79 true 85, []), (⟨(some 87), (some (79, true)), .bin .eql (t 84) (t 86)⟩, []), (⟨(some 88), none, .pick (t 79) (t 87) (k (.bool false))⟩, [])])
  (.cond (t 88)
  (.seq (.reg [Im 89 11, Im 90 12, ⟨(some 91), none, .iaddr 4 (t 89) (t 90)⟩, If 92 3 91, Il 93 92, Im 4 93, ⟨(some 5), none, .mv (Ki 0)⟩])
  .ret)
  .skip)))
  (.reg [Im 59 12, ⟨(some 60), none, .bin .add (t 59) (Ki 1)⟩, Im 12 60]))))))
  (.seq (.reg [⟨(some 4), none, .mv (Ki 0)⟩, ⟨(some 5), none, .mv (Ki 6)⟩])
  .ret)))))))))
theorem fn105 : Fn Go.Proofs.Try.prog 105 94 [.inl 4, .inl 5] c105 :=
  ⟨⟨_, _, Go.Proofs.Try.func105, rfl, by kernel_rfl, Go.Proofs.Try.ntmps105, by kernel_rfl, ⟨fun f => impS.contains f, false, fun _ => false, false⟩, by kernel_rfl⟩⟩
def c130 : C :=
  (.seq (.reg [⟨(some 1), none, .box (t 0)⟩, ⟨(some 2), none, .mv (k (.bool false))⟩])
  (.seq (.seq (.reg [If 5 2 1, Il 6 5, Iz 7 6, ⟨(some 8), none, .mv (Ki 0)⟩])
  (.block 0
  (.loop
  (.seq (.reg [⟨(some 9), none, .bin .lss (t 8) (t 7)⟩])
  (.seq (.cond (t 9)
  .skip
  (.exit 0))
  (.seq (.block 1
  (.seq (.reg [⟨(some 10), none, .iaddr 6 (t 6) (t 8)⟩, Ia 11 6 10, ⟨(some 4), none, .alloc [(.str []), (.str []), (.int .i64 0), (.int .i64 0), (.str []), .nils]⟩, Is 6 4 11])
  (.seq (.reg [If 12 2 4, Ia 13 4 12, Ip 14 53 [(t 13)], ⟨(some 15), none, .un .not (t 14)⟩, Im 16 15, Jf 17 16 false 2 4, Jf 18 16 false 0 17, Jl 19 16 false 18, ⟨(some 20), (some (16, false)), .bin .eql (t 19) (Ki 0)⟩, ⟨(some 21), none, .pick (t 16) (k (.bool true)) (t 20)⟩])
  (.cond (t 21)
  (.seq (.reg [⟨(some 2), none, .mv (k (.bool false))⟩])
  .ret)
  .skip))))
  (.reg [⟨(some 22), none, .bin .add (t 8) (Ki 1)⟩, Im 8 22])))))))
  (.seq (.reg [If 23 0 1, Il 24 23, ⟨(some 25), none, .bin .geq (t 24) (Ki 0)⟩, Im 26 25, Jf 27 26 true 0 1, Jl 28 26 true 27, ⟨(some 29), (some (26, true)), .bin .leq (t 28) (Ki 1099511627776)⟩, ⟨(some 30), none, .pick (t 26) (t 29) (k (.bool false))⟩, Im 2 30])
  .ret)))
theorem fn130 : Fn Go.Proofs.Try.prog 130 31 [.inl 2] c130 :=
  ⟨⟨_, _, Go.Proofs.Try.func130, rfl, by kernel_rfl, Go.Proofs.Try.ntmps130, by kernel_rfl, ⟨fun f => impS.contains f, false, fun _ => false, false⟩, by kernel_rfl⟩⟩
def c149 : C :=
  (.seq (.reg [⟨(some 2), none, .mv (Ki 0)⟩])
  (.seq (.seq (.reg [Im 3 0])
  (.block 0
  (.seq (.seq (.reg [⟨(some 5), none, .bin .eql (t 3) (k (.str [118, 97, 108, 117, 101]))⟩, Im 4 5])
  (.cond (t 4)
  .skip
  (.seq (.reg [⟨(some 6), none, .bin .eql (t 3) (k (.str [110, 111, 119]))⟩, Im 4 6])
  (.cond (t 4)
  .skip
  (.seq (.reg [⟨(some 7), none, .bin .eql (t 3) (k (.str [97, 116, 116, 114]))⟩, Im 4 7])
  (.cond (t 4)
  .skip
  (.seq (.reg [⟨(some 8), none, .bin .eql (t 3) (k (.str [104, 97, 115]))⟩, Im 4 8])
  (.cond (t 4)
  .skip
  (.reg [⟨(some 9), none, .bin .eql (t 3) (k (.str [114, 111, 108, 101]))⟩, Im 4 9])))))))))
  (.cond (t 4)
  (.seq (.reg [⟨(some 2), none, .mv (Ki 0)⟩])
  .ret)
  (.seq (.seq (.reg [⟨(some 11), none, .bin .eql (t 3) (k (.str [110, 111, 116]))⟩, Im 10 11])
  (.cond (t 10)
  .skip
  (.seq (.reg [⟨(some 12), none, .bin .eql (t 3) (k (.str [110, 101, 103]))⟩, Im 10 12])
  (.cond (t 10)
  .skip
  (.reg [⟨(some 13), none, .bin .eql (t 3) (k (.str [115, 105, 122, 101]))⟩, Im 10 13])))))
  (.cond (t 10)
  (.seq (.reg [⟨(some 2), none, .mv (Ki 1)⟩])
  .ret)
  (.seq (.seq (.reg [⟨(some 15), none, .bin .eql (t 3) (k (.str [97, 110, 100]))⟩, Im 14 15])
  (.cond (t 14)
  .skip
  (.seq (.reg [⟨(some 16), none, .bin .eql (t 3) (k (.str [111, 114]))⟩, Im 14 16])
  (.cond (t 14)
  .skip
  (.seq (.reg [⟨(some 17), none, .bin .eql (t 3) (k (.str [43]))⟩, Im 14 17])
  (.cond (t 14)
  .skip
  (.seq (.reg [⟨(some 18), none, .bin .eql (t 3) (k (.str [45]))⟩, Im 14 18])
  (.cond (t 14)
  .skip
  (.seq (.reg [⟨(some 19), none, .bin .eql (t 3) (k (.str [42]))⟩, Im 14 19])
  (.cond (t 14)
  .skip
  (.seq (.reg [⟨(some 20), none, .bin .eql (t 3) (k (.str [61, 61]))⟩, Im 14 20])
  (.cond (t 14)
  .skip
  (.seq (.reg [⟨(some 21), none, .bin .eql (t 3) (k (.str [33, 61]))⟩, Im 14 21])
  (.cond (t 14)
  .skip
  (.seq (.reg [⟨(some 22), none, .bin .eql (t 3) (k (.str [60]))⟩, Im 14 22])
  (.cond (t 14)
  .skip
  (.seq (.reg [⟨(some 23), none, .bin .eql (t 3) (k (.str [60, 61]))⟩, Im 14 23])
  (.cond (t 14)
  .skip
  (.seq (.reg [⟨(some 24), none, .bin .eql (t 3) (k (.str [62]))⟩, Im 14 24])
  (.cond (t 14)
  .skip
  (.seq (.reg [⟨(some 25), none, .bin .eql (t 3) (k (.str [62, 61]))⟩, Im 14 25])
  (.cond (t 14)
  .skip
  (.reg [⟨(some 26), none, .bin .eql (t 3) (k (.str [105, 110]))⟩, Im 14 26])))))))))))))))))))))))
  (.cond (t 14)
  (.seq (.reg [⟨(some 2), none, .mv (Ki 2)⟩])
  .ret)
  .skip))))))))
  (.seq (.reg [⟨(some 2), none, .mv (k (.int .i64 (-1)))⟩])
  .ret)))
theorem fn149 : Fn Go.Proofs.Try.prog 149 27 [.inl 2] c149 :=
  ⟨⟨_, _, Go.Proofs.Try.func149, rfl, by kernel_rfl, Go.Proofs.Try.ntmps149, by kernel_rfl, ⟨fun f => impS.contains f, false, fun _ => false, false⟩, by kernel_rfl⟩⟩
end GP
namespace GP
open Go Go.Proofs
open Rd O
set_option maxRecDepth 100000
def c150 : C :=
  (.seq (.reg [⟨(some 3), none, .box (t 1)⟩, ⟨(some 4), none, .mv (Ki 0)⟩, ⟨(some 5), none, .mv (Ki 0)⟩])
  (.seq (.seq (.reg [If 8 0 3, Il 9 8])
  (.block 0
  (.seq (.reg [⟨(some 11), none, .bin .eql (t 9) (k (.str [118, 97, 108, 117, 101]))⟩, Im 10 11])
  (.cond (t 10)
  (.seq (.seq (.reg [If 12 1 3, Ia 13 4 12, Ip 14 170 [(t 13)], Im 6 14])
  (.seq (.reg [Im 15 6, ⟨(some 16), none, .bin .neq (t 15) (Ki 0)⟩])
  (.cond (t 16)
  (.seq (.reg [Im 17 6, Im 4 17, ⟨(some 5), none, .mv (Ki 0)⟩])
  .ret)
  .skip)))
  (.seq (.reg [⟨(some 4), none, .mv (Ki 0)⟩, ⟨(some 5), none, .mv (Ki 2)⟩])
  .ret))
  (.seq (.reg [⟨(some 19), none, .bin .eql (t 9) (k (.str [110, 111, 119]))⟩, Im 18 19])
  (.cond (t 18)
  (.seq (.reg [⟨(some 4), none, .mv (Ki 4)⟩, ⟨(some 5), none, .mv (Ki 0)⟩])
  .ret)
  (.seq (.reg [⟨(some 21), none, .bin .eql (t 9) (k (.str [114, 111, 108, 101]))⟩, Im 20 21])
  (.cond (t 20)
  (.seq (.reg [⟨(some 4), none, .mv (Ki 1)⟩, ⟨(some 5), none, .mv (Ki 0)⟩])
  .ret)
  .skip))))))))
  (.seq (.reg [Im 22 0, If 23 5 3, Il 24 23, If 25 6 3, Il 26 25, Ip 27 171 [(t 22), (t 24), (t 26)], Im 7 27])
  (.seq (.seq (.reg [Im 28 7, ⟨(some 29), none, .bin .eql (t 28) (Ki 0)⟩])
  (.cond (t 29)
  (.seq (.reg [⟨(some 4), none, .mv (Ki 0)⟩, ⟨(some 5), none, .mv (Ki 8)⟩])
  .ret)
  .skip))
  (.seq (.seq (.reg [If 30 0 3, Il 31 30, ⟨(some 32), none, .bin .eql (t 31) (k (.str [104, 97, 115]))⟩])
  (.cond (t 32)
  (.reg [⟨(some 7), none, .mv (Ki 1)⟩])
  .skip))
  (.seq (.reg [Im 33 7, Im 4 33, ⟨(some 5), none, .mv (Ki 0)⟩])
  .ret))))))
theorem fn150 : Fn Go.Proofs.Try.prog 150 34 [.inl 4, .inl 5] c150 :=
  ⟨⟨_, _, Go.Proofs.Try.func150, rfl, by kernel_rfl, Go.Proofs.Try.ntmps150, by kernel_rfl, ⟨fun f => impS.contains f, false, fun _ => false, false⟩, by kernel_rfl⟩⟩
def c151 : C :=
  (.seq (.reg [⟨(some 4), none, .mv (Ki 0)⟩])
  (.seq (.block 0
  (.seq (.reg [Im 6 0, ⟨(some 7), none, .bin .eql (t 6) (k (.str [110, 111, 116]))⟩, Im 8 7, Jm 9 8 true 1, ⟨(some 10), (some (8, true)), .bin .eql (t 9) (Ki 1)⟩, ⟨(some 11), none, .pick (t 8) (t 10) (k (.bool false))⟩, Im 5 11])
  (.cond (t 5)
  (.seq (.reg [⟨(some 4), none, .mv (Ki 1)⟩])
  .ret)
  (.seq (.seq (.reg [Im 13 0, ⟨(some 14), none, .bin .eql (t 13) (k (.str [110, 101, 103]))⟩, Im 15 14, Jm 16 15 true 1, ⟨(some 17), (some (15, true)), .bin .eql (t 16) (Ki 2)⟩, ⟨(some 18), none, .pick (t 15) (t 17) (k (.bool false))⟩, Im 12 18])
  (.cond (t 12)
  .skip
  (.reg [Im 19 0, ⟨(some 20), none, .bin .eql (t 19) (k (.str [115, 105, 122, 101]))⟩, Im 21 20, Jm 22 21 true 1, ⟨(some 23), (some (21, true)), .bin .gtr (t 22) (Ki 10)⟩, ⟨(some 24), none, .pick (t 21) (t 23) (k (.bool false))⟩, Im 12 24])))
  (.cond (t 12)
  (.seq (.reg [⟨(some 4), none, .mv (Ki 2)⟩])
  .ret)
  .skip)))))
  (.seq (.reg [⟨(some 4), none, .mv (Ki 0)⟩])
  .ret)))
theorem fn151 : Fn Go.Proofs.Try.prog 151 25 [.inl 4] c151 :=
  ⟨⟨_, _, Go.Proofs.Try.func151, rfl, by kernel_rfl, Go.Proofs.Try.ntmps151, by kernel_rfl, ⟨fun f => impS.contains f, false, fun _ => false, false⟩, by kernel_rfl⟩⟩
def c152 : C :=
  (.seq (.reg [⟨(some 6), none, .mv (Ki 0)⟩])
  (.seq (.reg [⟨(some 7), none, .mv (k (.bool false))⟩])
  (.seq (.seq (.reg [Im 8 0])
  (.block 0
  (.seq (.seq (.reg [⟨(some 21), none, .bin .eql (t 8) (k (.str [43]))⟩, Im 20 21])
  (.cond (t 20)
  .skip
  (.seq (.reg [⟨(some 22), none, .bin .eql (t 8) (k (.str [45]))⟩, Im 20 22])
  (.cond (t 20)
  .skip
  (.reg [⟨(some 23), none, .bin .eql (t 8) (k (.str [42]))⟩, Im 20 23])))))
  (.cond (t 20)
  (.seq (.reg [Im 24 0, Im 25 1, Im 26 2, Ip 27 172 [(t 24), (t 25), (t 26)], Im 6 27])
  .ret)
  (.seq (.seq (.reg [⟨(some 29), none, .bin .eql (t 8) (k (.str [97, 110, 100]))⟩, Im 28 29])
  (.cond (t 28)
  .skip
  (.reg [⟨(some 30), none, .bin .eql (t 8) (k (.str [111, 114]))⟩, Im 28 30])))
  (.cond (t 28)
  (.reg [Im 31 1, ⟨(some 32), none, .bin .eql (t 31) (Ki 1)⟩, Im 33 32, Jm 34 33 true 2, ⟨(some 35), (some (33, true)), .bin .eql (t 34) (Ki 1)⟩, ⟨(some 36), none, .pick (t 33) (t 35) (k (.bool false))⟩, Im 7 36])
  (.seq (.seq (.reg [⟨(some 38), none, .bin .eql (t 8) (k (.str [61, 61]))⟩, Im 37 38])
  (.cond (t 37)
  .skip
  (.reg [⟨(some 39), none, .bin .eql (t 8) (k (.str [33, 61]))⟩, Im 37 39])))
  (.cond (t 37)
  (.reg [Im 40 1, Im 41 2, ⟨(some 42), none, .bin .eql (t 40) (t 41)⟩, Im 7 42])
  (.seq (.reg [⟨(some 44), none, .bin .eql (t 8) (k (.str [105, 110]))⟩, Im 43 44])
  (.cond (t 43)
  (.reg [Im 45 2, Im 46 1, ⟨(some 47), none, .bin .add (Ki 10) (t 46)⟩, ⟨(some 48), none, .bin .eql (t 45) (t 47)⟩, Im 7 48])
  (.reg [Im 9 1, Im 10 2, ⟨(some 11), none, .bin .eql (t 9) (t 10)⟩, Im 12 11, Jm 13 12 true 1, ⟨(some 14), (some (12, true)), .bin .neq (t 13) (Ki 1)⟩, ⟨(some 15), none, .pick (t 12) (t 14) (k (.bool false))⟩, Im 16 15, Jm 17 16 true 1, ⟨(some 18), (some (16, true)), .bin .lss (t 17) (Ki 10)⟩, ⟨(some 19), none, .pick (t 16) (t 18) (k (.bool false))⟩, Im 7 19])))))))))))
  (.seq (.seq (.reg [Im 49 7])
  (.cond (t 49)
  (.seq (.reg [⟨(some 6), none, .mv (Ki 1)⟩])
  .ret)
  .skip))
  (.seq (.reg [⟨(some 6), none, .mv (Ki 0)⟩])
  .ret)))))
theorem fn152 : Fn Go.Proofs.Try.prog 152 50 [.inl 6] c152 :=
  ⟨⟨_, _, Go.Proofs.Try.func152, rfl, by kernel_rfl, Go.Proofs.Try.ntmps152, by kernel_rfl, ⟨fun f => impS.contains f, false, fun _ => false, false⟩, by kernel_rfl⟩⟩
def c172 : C :=
  (.seq (.reg [⟨(some 6), none, .mv (Ki 0)⟩])
  (.seq (.reg [Im 8 1, ⟨(some 9), none, .bin .eql (t 8) (Ki 2)⟩, Im 10 9, Jm 11 10 true 2, ⟨(some 12), (some (10, true)), .bin .eql (t 11) (Ki 2)⟩, ⟨(some 13), none, .pick (t 10) (t 12) (k (.bool false))⟩, Im 7 13])
  (.seq (.block 0
  (.seq (.reg [Im 15 7, Im 14 15])
  (.cond (t 14)
  (.seq (.reg [⟨(some 6), none, .mv (Ki 2)⟩])
  .ret)
  (.seq (.reg [Im 17 0, ⟨(some 18), none, .bin .neq (t 17) (k (.str [42]))⟩, Im 19 18, Jm 20 19 true 1, ⟨(some 21), (some (19, true)), .bin .eql (t 20) (Ki 4)⟩, ⟨(some 22), none, .pick (t 19) (t 21) (k (.bool false))⟩, Im 23 22, Jm 24 23 true 2, ⟨(some 25), (some (23, true)), .bin .eql (t 24) (Ki 2)⟩, ⟨(some 26), none, .pick (t 23) (t 25) (k (.bool false))⟩, Im 16 26])
  (.cond (t 16)
  (.seq (.reg [⟨(some 6), none, .mv (Ki 4)⟩])
  .ret)
  (.seq (.reg [Im 28 0, ⟨(some 29), none, .bin .eql (t 28) (k (.str [45]))⟩, Im 30 29, Jm 31 30 true 1, ⟨(some 32), (some (30, true)), .bin .eql (t 31) (Ki 4)⟩, ⟨(some 33), none, .pick (t 30) (t 32) (k (.bool false))⟩, Im 34 33, Jm 35 34 true 2, ⟨(some 36), (some (34, true)), .bin .eql (t 35) (Ki 4)⟩, ⟨(some 37), none, .pick (t 34) (t 36) (k (.bool false))⟩, Im 27 37])
  (.cond (t 27)
  (.seq (.reg [⟨(some 6), none, .mv (Ki 2)⟩])
  .ret)
  .skip)))))))
  (.seq (.reg [⟨(some 6), none, .mv (Ki 0)⟩])
  .ret))))
theorem fn172 : Fn Go.Proofs.Try.prog 172 38 [.inl 6] c172 :=
  ⟨⟨_, _, Go.Proofs.Try.func172, rfl, by kernel_rfl, Go.Proofs.Try.ntmps172, by kernel_rfl, ⟨fun f => impS.contains f, false, fun _ => false, false⟩, by kernel_rfl⟩⟩
end GP
