import Derived.Shelf.SlSortCmp.WholeK
import Derived.Shelf.Slices.CompactS
import Derived.Shelf.Sort.Plain
import Derived.Test.YtjpbliffonimgaaProg
import Derived.Test.YtjpbliffonimgaaM0
import Derived.Test.YtjpbliffonimgaaM5
set_option linter.unusedSimpArgs false
set_option linter.unnecessarySimpa false
set_option linter.unusedSectionVars false
namespace GP
open Go Go.Proofs
open Rd O
set_option maxRecDepth 100000
def c13 : C :=
  (.seq (.reg [⟨(some 4), none, .mv (k (.bool false))⟩])
  (.seq (.seq (.reg [Ic 15 30 [], ⟨(some 16), none, .un .not (t 15)⟩, Im 17 16, Jm 18 17 false 0, ⟨(some 19), (some (17, false)), .pcall (k (.fn 41 [] [])) [(t 18), (Ki 60)]⟩, ⟨(some 20), (some (17, false)), .un .not (t 19)⟩, ⟨(some 21), none, .pick (t 17) (k (.bool true)) (t 20)⟩, Im 22 21, Jm 23 22 false 1, ⟨(some 24), (some (22, false)), .lens (t 23)⟩, ⟨(some 25), (some (22, false)), .bin .gtr (t 24) (Ki 100)⟩, ⟨(some 26), none, .pick (t 22) (k (.bool true)) (t 25)⟩])
  (.cond (t 26)
  (.seq (.reg [Ic 27 30 [], Im 4 27])
  .ret)
  .skip))
  (.seq (.reg [Ic 28 31 [], Im 5 28])
  (.seq (.reg [⟨(some 6), none, .alloc [.nils, .nils]⟩])
  (.seq (.seq (.reg [⟨(some 7), none, .mv (Ki 0)⟩])
  (.block 0
  (.loop
  (.seq (.seq (.reg [Im 29 7, Im 30 0, Iz 31 30, ⟨(some 32), none, .bin .lss (t 29) (t 31)⟩])
  (.cond (t 32)
  .skip
  (.exit 0)))
  (.seq (.block 1
  (.seq (.reg [Im 35 5, Im 36 0, Im 37 7, ⟨(some 38), none, .iaddr 3 (t 36) (t 37)⟩, Ia 39 3 38, Ic 40 42 [(t 35), (t 39)]])
  (.seq (.draw 1 [(Ia 42 2 6, []), (Im 43 0, []), (Im 44 7, []), (⟨(some 45), none, .iaddr 3 (t 43) (t 44)⟩, []), (Ia 46 3 45, []), (Ip 47 43 [(t 42), (t 46)], []), (Im 41 47, []), (Ie 48 0 41, []), (Ie 49 1 41, []), (⟨(some 8), none, .rawAt 1 [.nils, .nils]⟩, []), (⟨none, none, .fillAt 1 2 (t 8) (t 48)⟩, []), (Im 9 49, [])])
  (.reg [Ia 50 2 8, Is 2 6 50]))))
  (.reg [Im 33 7, ⟨(some 34), none, .bin .add (t 33) (Ki 1)⟩, Im 7 34]))))))
  (.seq (.reg [Im 51 5, Im 52 1, Ic 53 54 [(t 51), (t 52)], Im 10 53])
  (.seq (.seq (.reg [⟨(some 11), none, .mv (Ki 0)⟩])
  (.block 2
  (.loop
  (.seq (.seq (.reg [Im 54 11, Im 55 10, Iz 56 55, ⟨(some 57), none, .bin .lss (t 54) (t 56)⟩])
  (.cond (t 57)
  .skip
  (.exit 2)))
  (.seq (.block 3
  (.seq (.draw 0 [(Ia 60 2 6, []), (Im 61 1, []), (Im 62 10, []), (Im 63 11, []), (⟨(some 64), none, .iaddr 1 (t 62) (t 63)⟩, []), (Il 65 64, []), (Ip 66 55 [(t 60), (t 61), (t 65)], []), (⟨(some 67), none, .un .not (t 66)⟩, []), (Im 68 67, []), (Jm 69 68 false 11, []), (⟨(some 70), (some (68, false)), .bin .gtr (t 69) (Ki 0)⟩, []), (Jm 71 68 false 70, []), (Jm 72 71 true 10, []), (Jm 73 71 true 11, []), (⟨(some 74), (some (71, true)), .bin .sub (t 73) (Ki 1)⟩, []), (⟨(some 75), (some (71, true)), .iaddr 1 (t 72) (t 74)⟩, []), (Jl 76 71 true 75, []), (Jm 77 71 true 10, []), (Jm 78 71 true 11, []), (⟨(some 79), (some (71, true)), .iaddr 1 (t 77) (t 78)⟩, []), (Jl 80 71 true 79, []), (⟨(some 81), (some (71, true)), .pcall (k (.fn 40 [] [])) [(t 76), (t 80)]⟩, []), (⟨(some 82), (some (71, true)), .bin .geq (t 81) (Ki 0)⟩, []), (⟨(some 83), (some (68, false)), .pick (t 71) (t 82) (k (.bool false))⟩, []), (⟨(some 84), none, .pick (t 68) (k (.bool true)) (t 83)⟩, [])])
  (.cond (t 84)
  (.seq (.reg [⟨(some 4), none, .mv (k (.bool false))⟩])
  .ret)
  .skip)))
  (.reg [Im 58 11, ⟨(some 59), none, .bin .add (t 58) (Ki 1)⟩, Im 11 59]))))))
  (.seq (.seq (.reg [⟨(some 12), none, .mv (Ki 0)⟩])
  (.block 4
  (.loop
  (.seq (.seq (.reg [Im 85 12, Im 86 0, Iz 87 86, ⟨(some 88), none, .bin .lss (t 85) (t 87)⟩])
  (.cond (t 88)
  .skip
  (.exit 4)))
  (.seq (.block 5
  (.seq (.draw 0 [(Im 91 0, []), (Im 92 12, []), (⟨(some 93), none, .iaddr 3 (t 91) (t 92)⟩, []), (If 94 1 93, []), (Il 95 94, []), (Im 96 0, []), (Im 97 12, []), (⟨(some 98), none, .iaddr 3 (t 96) (t 97)⟩, []), (If 99 2 98, []), (Il 100 99, []), (⟨(some 101), none, .bslq 1 [(t 95), (t 100)]⟩, []), (Iz 102 101, []), (⟨(some 103), none, .mv (Ki 0)⟩, [])])
  (.block 6
  (.loop
  (.seq (.reg [⟨(some 104), none, .bin .lss (t 103) (t 102)⟩])
  (.seq (.cond (t 104)
  .skip
  (.exit 6))
  (.seq (.block 7
  (.seq (.reg [⟨(some 105), none, .iaddr 1 (t 101) (t 103)⟩, Il 106 105, Im 14 106])
  (.seq (.reg [Ia 107 2 6, Im 108 1, Im 109 14, Ip 110 55 [(t 107), (t 108), (t 109)], Im 111 10, Im 112 14, Ip 113 56 [(t 111), (t 112)], ⟨(some 114), none, .eq1 .bool true (t 110) (t 113)⟩])
  (.cond (t 114)
  (.seq (.reg [⟨(some 4), none, .mv (k (.bool false))⟩])
  .ret)
  .skip))))
  (.reg [⟨(some 115), none, .bin .add (t 103) (Ki 1)⟩, Im 103 115]))))))))
  (.reg [Im 89 12, ⟨(some 90), none, .bin .add (t 89) (Ki 1)⟩, Im 12 90]))))))
  (.seq (.reg [⟨(some 4), none, .mv (k (.bool true))⟩])
  .ret)))))))))
theorem fn13 : Fn Go.Proofs.Try.prog 13 116 [.inl 4] c13 :=
  ⟨⟨_, _, Go.Proofs.Try.func13, rfl, by kernel_rfl, Go.Proofs.Try.ntmps13, by kernel_rfl, ⟨fun f => imp.contains f, false, fun _ => false, false⟩, by kernel_rfl⟩⟩
def c32 : C :=
  (.seq (.reg [⟨(some 3), none, .box (t 1)⟩, ⟨(some 4), none, .mv (Ki 0)⟩])
  (.seq (.reg [Im 6 0, If 7 0 3, Il 8 7, If 9 1 3, Il 10 9, ⟨(some 11), none, .bsl 1 [(t 8), (t 10)]⟩, Ic 12 67 [(t 6), (t 11)], Im 5 12])
  (.seq (.block 0
  (.seq (.reg [If 14 0 3, Il 15 14, If 16 1 3, Il 17 16, ⟨(some 18), none, .bsl 1 [(t 15), (t 17)]⟩, Ip 19 68 [(t 18)], ⟨(some 20), none, .un .not (t 19)⟩, Im 13 20])
  (.cond (t 13)
  (.seq (.reg [⟨(some 4), none, .mv (Ki 1)⟩])
  .ret)
  (.seq (.draw 0 [(Im 22 0, []), (In 23 22, []), (If 24 0 23, []), (Il 25 24, []), (Ia 26 2 3, []), (Ip 27 69 [(t 25), (t 26)], []), (Im 21 27, [])])
  (.cond (t 21)
  (.seq (.reg [⟨(some 4), none, .mv (Ki 9)⟩])
  .ret)
  (.seq (.reg [Im 29 0, If 30 1 3, Il 31 30, If 32 0 3, Il 33 32, Ip 34 34 [(t 29), (t 31), (t 33)], Im 28 34])
  (.cond (t 28)
  (.seq (.reg [⟨(some 4), none, .mv (Ki 10)⟩])
  .ret)
  (.seq (.reg [Im 36 5, Iz 37 36, ⟨(some 38), none, .bin .gtr (t 37) (Ki 24)⟩, Im 35 38])
  (.cond (t 35)
  (.seq (.reg [⟨(some 4), none, .mv (Ki 13)⟩])
  .ret)
  .skip)))))))))
  (.seq (.draw 0 [(Im 39 0, []), (In 40 39, []), (If 41 2 40, []), (Il 42 41, []), (Ia 43 2 3, []), (Im 44 5, []), (Ic 45 70 [(t 42), (t 43), (Ki 1), (t 44)], [])])
  (.seq (.draw 0 [(Im 46 0, []), (Im 47 0, []), (In 48 47, []), (If 49 0 48, []), (Il 50 49, []), (Ia 51 2 3, []), (⟨(some 52), none, .bslq 2 [(t 51)]⟩, []), (⟨(some 53), none, .appm true false 2 32 (t 50) (t 52)⟩, []), (In 54 46, []), (If 55 0 54, []), (Is 1 55 53, [])])
  (.seq (.reg [⟨(some 4), none, .mv (Ki 0)⟩])
  .ret))))))
theorem fn32 : Fn Go.Proofs.Try.prog 32 56 [.inl 4] c32 :=
  ⟨⟨_, _, Go.Proofs.Try.func32, rfl, by kernel_rfl, Go.Proofs.Try.ntmps32, by kernel_rfl, ⟨fun f => imp.contains f, true, fun _ => false, false⟩, by kernel_rfl⟩⟩
def c56 : C :=
  (.seq (.reg [⟨(some 4), none, .mv (k (.bool false))⟩])
  (.seq (.seq (.reg [⟨(some 5), none, .mv (Ki 0)⟩])
  (.block 0
  (.loop
  (.seq (.seq (.reg [Im 6 5, Im 7 0, Iz 8 7, ⟨(some 9), none, .bin .lss (t 6) (t 8)⟩])
  (.cond (t 9)
  .skip
  (.exit 0)))
  (.seq (.block 1
  (.seq (.reg [Im 12 0, Im 13 5, ⟨(some 14), none, .iaddr 1 (t 12) (t 13)⟩, Il 15 14, Im 16 1, ⟨(some 17), none, .bin .eql (t 15) (t 16)⟩])
  (.cond (t 17)
  (.seq (.reg [⟨(some 4), none, .mv (k (.bool true))⟩])
  .ret)
  .skip)))
  (.reg [Im 10 5, ⟨(some 11), none, .bin .add (t 10) (Ki 1)⟩, Im 5 11]))))))
  (.seq (.reg [⟨(some 4), none, .mv (k (.bool false))⟩])
  .ret)))
theorem fn56 : Fn Go.Proofs.Try.prog 56 18 [.inl 4] c56 :=
  ⟨⟨_, _, Go.Proofs.Try.func56, rfl, by kernel_rfl, Go.Proofs.Try.ntmps56, by kernel_rfl, ⟨fun f => imp.contains f, false, fun _ => false, false⟩, by kernel_rfl⟩⟩
def c67 : C :=
  (.seq (.reg [⟨(some 4), none, .mv (k .nils)⟩])
  (.seq (.reg [Im 10 1, Ic 11 106 [(t 10)], Im 5 11])
  (.seq (.seq (.reg [Im 12 0, In 13 12, If 14 0 13, Il 15 14, Iz 16 15, ⟨(some 17), none, .mv (Ki 0)⟩])
  (.block 0
  (.loop
  (.seq (.reg [⟨(some 18), none, .bin .lss (t 17) (t 16)⟩])
  (.seq (.cond (t 18)
  .skip
  (.exit 0))
  (.seq (.block 1
  (.seq (.reg [⟨(some 19), none, .iaddr 2 (t 15) (t 17)⟩, Ia 20 2 19, ⟨(some 7), none, .alloc [(.str []), (.str [])]⟩, Is 2 7 20])
  (.reg [Im 21 5, If 22 0 7, Il 23 22, If 24 1 7, Il 25 24, ⟨(some 26), none, .bsl 1 [(t 23), (t 25)]⟩, ⟨(some 27), none, .appm false false 1 16 (t 21) (t 26)⟩, Im 5 27])))
  (.reg [⟨(some 28), none, .bin .add (t 17) (Ki 1)⟩, Im 17 28])))))))
  (.seq (.seq (.reg [Im 29 0, In 30 29, If 31 1 30, Il 32 31, Iz 33 32, ⟨(some 34), none, .mv (Ki 0)⟩])
  (.block 2
  (.loop
  (.seq (.reg [⟨(some 35), none, .bin .lss (t 34) (t 33)⟩])
  (.seq (.cond (t 35)
  .skip
  (.exit 2))
  (.seq (.block 3
  (.seq (.reg [⟨(some 36), none, .iaddr 2 (t 32) (t 34)⟩, Ia 37 2 36, ⟨(some 9), none, .alloc [(.str []), (.str [])]⟩, Is 2 9 37])
  (.reg [Im 38 5, If 39 1 9, Il 40 39, ⟨(some 41), none, .bsl 1 [(t 40)]⟩, ⟨(some 42), none, .appm false false 1 16 (t 38) (t 41)⟩, Im 5 42])))
  (.reg [⟨(some 43), none, .bin .add (t 34) (Ki 1)⟩, Im 34 43])))))))
  (.seq (.reg [Im 44 5, Ic 45 107 [(t 44)]])
  (.seq (.reg [Im 46 5, Ic 47 73 [(t 46)], Im 4 47])
  .ret))))))
theorem fn67 : Fn Go.Proofs.Try.prog 67 48 [.inl 4] c67 :=
  ⟨⟨_, _, Go.Proofs.Try.func67, rfl, by kernel_rfl, Go.Proofs.Try.ntmps67, by kernel_rfl, ⟨fun f => imp.contains f, true, fun _ => false, false⟩, by kernel_rfl⟩⟩
def c74 : C :=
  (.seq (.reg [⟨(some 3), none, .box (t 1)⟩, ⟨(some 4), none, .mv (Ki 0)⟩])
  (.seq (.draw 0 [(Im 6 0, []), (In 7 6, []), (If 8 0 7, []), (Il 9 8, []), (Ia 10 2 3, []), (Ip 11 110 [(t 9), (t 10)], []), (Im 5 11, [])])
  (.seq (.seq (.reg [Im 12 5, ⟨(some 13), none, .bin .lss (t 12) (Ki 0)⟩])
  (.cond (t 13)
  (.seq (.reg [⟨(some 4), none, .mv (Ki 8)⟩])
  .ret)
  .skip))
  (.seq (.draw 0 [(Im 14 0, []), (In 15 14, []), (If 16 2 15, []), (Il 17 16, []), (Ia 18 2 3, []), (Im 19 0, []), (Ic 20 67 [(t 19), (k .nils)], [Il 17 16, Ia 18 2 3]), (Ic 21 70 [(t 17), (t 18), (k (.int .i64 (-1))), (t 20)], [])])
  (.seq (.reg [Im 22 0, Im 23 0, In 24 23, If 25 0 24, Il 26 25, Im 27 5, Im 28 5, ⟨(some 29), none, .bin .add (t 28) (Ki 1)⟩, Ic 30 111 [(t 26), (t 27), (t 29)], In 31 22, If 32 0 31, Is 1 32 30])
  (.seq (.reg [⟨(some 4), none, .mv (Ki 0)⟩])
  .ret))))))
theorem fn74 : Fn Go.Proofs.Try.prog 74 33 [.inl 4] c74 :=
  ⟨⟨_, _, Go.Proofs.Try.func74, rfl, by kernel_rfl, Go.Proofs.Try.ntmps74, by kernel_rfl, ⟨fun f => imp.contains f, false, fun _ => false, false⟩, by kernel_rfl⟩⟩
def c76 : C :=
  (.seq (.reg [⟨(some 3), none, .box (t 1)⟩, ⟨(some 4), none, .mv (Ki 0)⟩])
  (.seq (.draw 0 [(Im 6 0, []), (In 7 6, []), (If 8 1 7, []), (Il 9 8, []), (Ia 10 2 3, []), (Ip 11 113 [(t 9), (t 10)], []), (Im 5 11, [])])
  (.seq (.seq (.reg [Im 12 5, ⟨(some 13), none, .bin .lss (t 12) (Ki 0)⟩])
  (.cond (t 13)
  (.seq (.reg [⟨(some 4), none, .mv (Ki 8)⟩])
  .ret)
  .skip))
  (.seq (.reg [Im 14 0, Im 15 0, In 16 15, If 17 1 16, Il 18 17, Im 19 5, Im 20 5, ⟨(some 21), none, .bin .add (t 20) (Ki 1)⟩, Ic 22 114 [(t 18), (t 19), (t 21)], In 23 14, If 24 1 23, Is 1 24 22])
  (.seq (.reg [⟨(some 4), none, .mv (Ki 0)⟩])
  .ret)))))
theorem fn76 : Fn Go.Proofs.Try.prog 76 25 [.inl 4] c76 :=
  ⟨⟨_, _, Go.Proofs.Try.func76, rfl, by kernel_rfl, Go.Proofs.Try.ntmps76, by kernel_rfl, ⟨fun f => imp.contains f, false, fun _ => false, false⟩, by kernel_rfl⟩⟩
def c77 : C :=
  (.seq (.reg [⟨(some 2), none, .mv (k (.bool false))⟩])
  (.seq (.reg [Im 3 0, ⟨(some 4), none, .lens (t 3)⟩, ⟨(some 5), none, .bin .gtr (t 4) (Ki 0)⟩, Im 6 5, Jm 7 6 true 0, ⟨(some 8), (some (6, true)), .lens (t 7)⟩, ⟨(some 9), (some (6, true)), .bin .leq (t 8) (Ki 64)⟩, ⟨(some 10), none, .pick (t 6) (t 9) (k (.bool false))⟩, Im 2 10])
  .ret))
theorem fn77 : Fn Go.Proofs.Try.prog 77 11 [.inl 2] c77 :=
  ⟨⟨_, _, Go.Proofs.Try.func77, rfl, by kernel_rfl, Go.Proofs.Try.ntmps77, by kernel_rfl, ⟨fun f => imp.contains f, false, fun _ => false, false⟩, by kernel_rfl⟩⟩
def c78 : C :=
  (.seq (.reg [⟨(some 2), none, .box (t 0)⟩, ⟨(some 4), none, .mv (Ki 0)⟩])
  (.seq (.reg [⟨(some 5), none, .mv (k .nils)⟩])
  (.seq (.seq (.reg [⟨(some 6), none, .mv (Ki 0)⟩])
  (.block 0
  (.loop
  (.seq (.seq (.reg [Im 9 6, Im 10 1, Iz 11 10, ⟨(some 12), none, .bin .lss (t 9) (t 11)⟩])
  (.cond (t 12)
  .skip
  (.exit 0)))
  (.seq (.block 1
  (.seq (.reg [Im 15 5, Im 16 1, Im 17 6, ⟨(some 18), none, .iaddr 1 (t 16) (t 17)⟩, Il 19 18, Ip 20 56 [(t 15), (t 19)], ⟨(some 21), none, .un .not (t 20)⟩])
  (.cond (t 21)
  (.reg [Im 22 5, Im 23 1, Im 24 6, ⟨(some 25), none, .iaddr 1 (t 23) (t 24)⟩, Il 26 25, ⟨(some 27), none, .bsl 1 [(t 26)]⟩, ⟨(some 28), none, .app false 1 16 (t 22) (t 27)⟩, Im 5 28])
  .skip)))
  (.reg [Im 13 6, ⟨(some 14), none, .bin .add (t 13) (Ki 1)⟩, Im 6 14]))))))
  (.seq (.seq (.reg [⟨(some 7), none, .mv (Ki 0)⟩])
  (.block 2
  (.loop
  (.seq (.seq (.reg [Im 29 7, If 30 0 2, Il 31 30, Iz 32 31, ⟨(some 33), none, .bin .lss (t 29) (t 32)⟩])
  (.cond (t 33)
  .skip
  (.exit 2)))
  (.seq (.block 3
  (.seq (.seq (.reg [Im 36 5, If 37 0 2, Il 38 37, Im 39 7, ⟨(some 40), none, .iaddr 2 (t 38) (t 39)⟩, If 41 0 40, Il 42 41, Ip 43 56 [(t 36), (t 42)], ⟨(some 44), none, .un .not (t 43)⟩])
  (.cond (t 44)
  (.reg [Im 45 5, If 46 0 2, Il 47 46, Im 48 7, ⟨(some 49), none, .iaddr 2 (t 47) (t 48)⟩, If 50 0 49, Il 51 50, ⟨(some 52), none, .bsl 1 [(t 51)]⟩, ⟨(some 53), none, .app false 1 16 (t 45) (t 52)⟩, Im 5 53])
  .skip))
  (.seq (.reg [Im 54 5, If 55 0 2, Il 56 55, Im 57 7, ⟨(some 58), none, .iaddr 2 (t 56) (t 57)⟩, If 59 1 58, Il 60 59, Ip 61 56 [(t 54), (t 60)], ⟨(some 62), none, .un .not (t 61)⟩])
  (.cond (t 62)
  (.reg [Im 63 5, If 64 0 2, Il 65 64, Im 66 7, ⟨(some 67), none, .iaddr 2 (t 65) (t 66)⟩, If 68 1 67, Il 69 68, ⟨(some 70), none, .bsl 1 [(t 69)]⟩, ⟨(some 71), none, .app false 1 16 (t 63) (t 70)⟩, Im 5 71])
  .skip))))
  (.reg [Im 34 7, ⟨(some 35), none, .bin .add (t 34) (Ki 1)⟩, Im 7 35]))))))
  (.seq (.seq (.reg [⟨(some 8), none, .mv (Ki 0)⟩])
  (.block 4
  (.loop
  (.seq (.seq (.reg [Im 72 8, If 73 1 2, Il 74 73, Iz 75 74, ⟨(some 76), none, .bin .lss (t 72) (t 75)⟩])
  (.cond (t 76)
  .skip
  (.exit 4)))
  (.seq (.block 5
  (.seq (.reg [Im 79 5, If 80 1 2, Il 81 80, Im 82 8, ⟨(some 83), none, .iaddr 2 (t 81) (t 82)⟩, If 84 1 83, Il 85 84, Ip 86 56 [(t 79), (t 85)], ⟨(some 87), none, .un .not (t 86)⟩])
  (.cond (t 87)
  (.reg [Im 88 5, If 89 1 2, Il 90 89, Im 91 8, ⟨(some 92), none, .iaddr 2 (t 90) (t 91)⟩, If 93 1 92, Il 94 93, ⟨(some 95), none, .bsl 1 [(t 94)]⟩, ⟨(some 96), none, .app false 1 16 (t 88) (t 95)⟩, Im 5 96])
  .skip)))
  (.reg [Im 77 8, ⟨(some 78), none, .bin .add (t 77) (Ki 1)⟩, Im 8 78]))))))
  (.seq (.reg [Im 97 5, Iz 98 97, Im 4 98])
  .ret))))))
theorem fn78 : Fn Go.Proofs.Try.prog 78 99 [.inl 4] c78 :=
  ⟨⟨_, _, Go.Proofs.Try.func78, rfl, by kernel_rfl, Go.Proofs.Try.ntmps78, by kernel_rfl, ⟨fun f => imp.contains f, false, fun _ => false, false⟩, by kernel_rfl⟩⟩
def c108 : C :=
  (.seq (.reg [⟨(some 4), none, .mv (k (.bool false))⟩])
  (.seq (.reg [Im 5 0, Im 6 1, Ip 7 126 [(t 5), (t 6)], ⟨(some 8), none, .bin .geq (t 7) (Ki 0)⟩, Im 4 8])
  .ret))
theorem fn108 : Fn Go.Proofs.Try.prog 108 9 [.inl 4] c108 :=
  ⟨⟨_, _, Go.Proofs.Try.func108, rfl, by kernel_rfl, Go.Proofs.Try.ntmps108, by kernel_rfl, ⟨fun f => imp.contains f, false, fun _ => false, false⟩, by kernel_rfl⟩⟩
def c112 : C :=
  (.seq (.reg [⟨(some 3), none, .box (t 1)⟩, ⟨(some 4), none, .mv (k (.bool false))⟩])
  (.seq (.reg [Im 5 0, Ia 6 2 3, Ip 7 113 [(t 5), (t 6)], ⟨(some 8), none, .bin .geq (t 7) (Ki 0)⟩, Im 4 8])
  .ret))
theorem fn112 : Fn Go.Proofs.Try.prog 112 9 [.inl 4] c112 :=
  ⟨⟨_, _, Go.Proofs.Try.func112, rfl, by kernel_rfl, Go.Proofs.Try.ntmps112, by kernel_rfl, ⟨fun f => imp.contains f, false, fun _ => false, false⟩, by kernel_rfl⟩⟩
def c126 : C :=
  (.seq (.reg [⟨(some 4), none, .mv (Ki 0)⟩])
  (.seq (.seq (.reg [Im 6 0, Iz 7 6, ⟨(some 8), none, .mv (Ki 0)⟩])
  (.block 0
  (.loop
  (.seq (.reg [⟨(some 9), none, .bin .lss (t 8) (t 7)⟩])
  (.seq (.cond (t 9)
  .skip
  (.exit 0))
  (.seq (.block 1
  (.seq (.reg [Im 10 8, Im 5 10])
  (.seq (.reg [Im 11 1, Im 12 0, Im 13 5, ⟨(some 14), none, .iaddr 1 (t 12) (t 13)⟩, Il 15 14, ⟨(some 16), none, .pcall (t 11) [(t 15)]⟩])
  (.cond (t 16)
  (.seq (.reg [Im 17 5, Im 4 17])
  .ret)
  .skip))))
  (.reg [⟨(some 18), none, .bin .add (t 8) (Ki 1)⟩, Im 8 18])))))))
  (.seq (.reg [⟨(some 4), none, .mv (k (.int .i64 (-1)))⟩])
  .ret)))
theorem fn126 : Fn Go.Proofs.Try.prog 126 19 [.inl 4] c126 :=
  ⟨⟨_, _, Go.Proofs.Try.func126, rfl, by kernel_rfl, Go.Proofs.Try.ntmps126, by kernel_rfl, ⟨fun f => imp.contains f, false, fun _ => false, false⟩, by kernel_rfl⟩⟩
end GP
namespace GP
open Go Go.Proofs
open Rd O
set_option maxRecDepth 100000
def c30 : C :=
  (.seq (.reg [⟨(some 0), none, .mv (k (.bool false))⟩])
  (.seq (.reg [Ic 2 31 [], Im 1 2])
  (.seq (.reg [Im 3 1, ⟨(some 4), none, .eq1 .ptr true (t 3) (k .nilp)⟩, Im 5 4, Jm 6 5 true 1, ⟨(some 7), (some (5, true)), .build [(.str []), (.str [])] [(0, 1, (k (.str [97]))), (1, 1, (k (.str [98])))]⟩, ⟨(some 8), (some (5, true)), .call (k (.fn 32 [] [])) [(t 6), (t 7)]⟩, ⟨(some 9), (some (5, true)), .bin .eql (t 8) (Ki 0)⟩, ⟨(some 10), none, .pick (t 5) (t 9) (k (.bool false))⟩, Im 11 10, Jm 12 11 true 1, ⟨(some 13), (some (11, true)), .pcall (k (.fn 34 [] [])) [(t 12), (k (.str [97])), (k (.str [98]))]⟩, ⟨(some 14), none, .pick (t 11) (t 13) (k (.bool false))⟩, Im 15 14, Jm 16 15 true 1, ⟨(some 17), (some (15, true)), .pcall (k (.fn 34 [] [])) [(t 16), (k (.str [98])), (k (.str [97]))]⟩, ⟨(some 18), (some (15, true)), .un .not (t 17)⟩, ⟨(some 19), none, .pick (t 15) (t 18) (k (.bool false))⟩, Im 0 19])
  .ret)))
theorem fn30 : Fn Go.Proofs.Try.prog 30 20 [.inl 0] c30 :=
  ⟨⟨_, _, Go.Proofs.Try.func30, rfl, by kernel_rfl, Go.Proofs.Try.ntmps30, by kernel_rfl, ⟨fun f => imp.contains f, false, fun _ => false, false⟩, by kernel_rfl⟩⟩
def c31 : C :=
  (.seq (.reg [⟨(some 0), none, .mv (k .nilp)⟩])
  (.seq (.reg [⟨(some 1), none, .mkmap⟩, ⟨(some 2), none, .build [.nils, .nils, .nilm] [(2, 1, (t 1))]⟩, ⟨(some 3), none, .box (t 2)⟩, Im 0 3])
  .ret))
theorem fn31 : Fn Go.Proofs.Try.prog 31 4 [.inl 0] c31 :=
  ⟨⟨_, _, Go.Proofs.Try.func31, rfl, by kernel_rfl, Go.Proofs.Try.ntmps31, by kernel_rfl, ⟨fun f => imp.contains f, false, fun _ => false, false⟩, by kernel_rfl⟩⟩
def c41 : C :=
  (.seq (.reg [⟨(some 4), none, .mv (k (.bool false))⟩])
  (.seq (.seq (.reg [⟨(some 5), none, .mv (Ki 0)⟩])
  (.block 0
  (.loop
  (.seq (.seq (.reg [Im 6 5, Im 7 0, Iz 8 7, ⟨(some 9), none, .bin .lss (t 6) (t 8)⟩, Im 10 9, Jm 11 10 true 5, ⟨(some 12), (some (10, true)), .bin .lss (t 11) (Ki 300)⟩, ⟨(some 13), none, .pick (t 10) (t 12) (k (.bool false))⟩])
  (.cond (t 13)
  .skip
  (.exit 0)))
  (.seq (.block 1
  (.seq (.reg [Im 16 0, Im 17 5, ⟨(some 18), none, .iaddr 3 (t 16) (t 17)⟩, If 19 1 18, Il 20 19, ⟨(some 21), none, .lens (t 20)⟩, ⟨(some 22), none, .bin .gtr (t 21) (Ki 100)⟩, Im 23 22, Jm 24 23 false 0, Jm 25 23 false 5, ⟨(some 26), (some (23, false)), .iaddr 3 (t 24) (t 25)⟩, Jf 27 23 false 2 26, Jl 28 23 false 27, ⟨(some 29), (some (23, false)), .lens (t 28)⟩, ⟨(some 30), (some (23, false)), .bin .gtr (t 29) (Ki 100)⟩, ⟨(some 31), none, .pick (t 23) (k (.bool true)) (t 30)⟩])
  (.cond (t 31)
  (.seq (.reg [⟨(some 4), none, .mv (k (.bool false))⟩])
  .ret)
  .skip)))
  (.reg [Im 14 5, ⟨(some 15), none, .bin .add (t 14) (Ki 1)⟩, Im 5 15]))))))
  (.seq (.reg [Im 32 0, Iz 33 32, Im 34 1, ⟨(some 35), none, .bin .leq (t 33) (t 34)⟩, Im 4 35])
  .ret)))
theorem fn41 : Fn Go.Proofs.Try.prog 41 36 [.inl 4] c41 :=
  ⟨⟨_, _, Go.Proofs.Try.func41, rfl, by kernel_rfl, Go.Proofs.Try.ntmps41, by kernel_rfl, ⟨fun f => imp.contains f, false, fun _ => false, false⟩, by kernel_rfl⟩⟩
def c42 : C :=
  (.seq (.reg [⟨(some 3), none, .box (t 1)⟩, ⟨(some 4), none, .mv (Ki 0)⟩])
  (.seq (.seq (.reg [If 5 0 3, Il 6 5, ⟨(some 7), none, .bin .rem (t 6) (k (.int .u8 4))⟩])
  (.block 0
  (.seq (.reg [⟨(some 9), none, .bin .eql (t 7) (k (.int .u8 0))⟩, Im 8 9])
  (.cond (t 8)
  (.seq (.reg [Im 10 0, If 11 1 3, Il 12 11, If 13 2 3, Il 14 13, ⟨(some 15), none, .build [(.str []), (.str [])] [(0, 1, (t 12)), (1, 1, (t 14))]⟩, Ic 16 32 [(t 10), (t 15)], Im 4 16])
  .ret)
  (.seq (.reg [⟨(some 18), none, .bin .eql (t 7) (k (.int .u8 1))⟩, Im 17 18])
  (.cond (t 17)
  (.seq (.reg [Im 19 0, If 20 1 3, Il 21 20, If 22 2 3, Il 23 22, ⟨(some 24), none, .build [(.str []), (.str [])] [(0, 1, (t 21)), (1, 1, (t 23))]⟩, Ic 25 74 [(t 19), (t 24)], Im 4 25])
  .ret)
  (.seq (.reg [⟨(some 27), none, .bin .eql (t 7) (k (.int .u8 2))⟩, Im 26 27])
  (.cond (t 26)
  (.seq (.reg [Im 28 0, If 29 1 3, Il 30 29, If 31 2 3, Il 32 31, ⟨(some 33), none, .build [(.str []), (.str [])] [(0, 1, (t 30)), (1, 1, (t 32))]⟩, Ic 34 75 [(t 28), (t 33)], Im 4 34])
  .ret)
  .skip))))))))
  (.seq (.reg [Im 35 0, If 36 1 3, Il 37 36, If 38 2 3, Il 39 38, ⟨(some 40), none, .build [(.str []), (.str [])] [(0, 1, (t 37)), (1, 1, (t 39))]⟩, Ic 41 76 [(t 35), (t 40)], Im 4 41])
  .ret)))
theorem fn42 : Fn Go.Proofs.Try.prog 42 42 [.inl 4] c42 :=
  ⟨⟨_, _, Go.Proofs.Try.func42, rfl, by kernel_rfl, Go.Proofs.Try.ntmps42, by kernel_rfl, ⟨fun f => imp.contains f, false, fun _ => false, false⟩, by kernel_rfl⟩⟩
def c45 : C :=
  (.seq (.reg [⟨(some 3), none, .box (t 0)⟩, ⟨(some 6), none, .mv (k (.bool false))⟩])
  (.seq (.reg [Im 7 1, Ip 8 77 [(t 7)], Im 9 8, Jm 10 9 true 2, ⟨(some 11), (some (9, true)), .pcall (k (.fn 77 [] [])) [(t 10)]⟩, ⟨(some 12), none, .pick (t 9) (t 11) (k (.bool false))⟩, Im 13 12, ⟨(some 14), (some (13, true)), .load true 2 (t 3)⟩, Jm 15 13 true 1, ⟨(some 16), (some (13, true)), .pcall (k (.fn 79 [] [])) [(t 14), (t 15)]⟩, Jm 17 13 true 2, ⟨(some 18), (some (13, true)), .pcall (k (.fn 56 [] [])) [(t 16), (t 17)]⟩, ⟨(some 19), none, .pick (t 13) (t 18) (k (.bool false))⟩, Im 6 19])
  .ret))
theorem fn45 : Fn Go.Proofs.Try.prog 45 20 [.inl 6] c45 :=
  ⟨⟨_, _, Go.Proofs.Try.func45, rfl, by kernel_rfl, Go.Proofs.Try.ntmps45, by kernel_rfl, ⟨fun f => imp.contains f, false, fun _ => false, false⟩, by kernel_rfl⟩⟩
def c69 : C :=
  (.seq (.reg [⟨(some 3), none, .box (t 1)⟩, ⟨(some 4), none, .mv (k (.bool false))⟩])
  (.seq (.reg [Im 5 0, Ia 6 2 3, Ip 7 110 [(t 5), (t 6)], ⟨(some 8), none, .bin .geq (t 7) (Ki 0)⟩, Im 4 8])
  .ret))
theorem fn69 : Fn Go.Proofs.Try.prog 69 9 [.inl 4] c69 :=
  ⟨⟨_, _, Go.Proofs.Try.func69, rfl, by kernel_rfl, Go.Proofs.Try.ntmps69, by kernel_rfl, ⟨fun f => imp.contains f, false, fun _ => false, false⟩, by kernel_rfl⟩⟩
def c71 : C :=
  (.seq (.reg [⟨(some 6), none, .mv (Ki 0)⟩])
  (.seq (.seq (.reg [Im 7 1, Im 8 2, ⟨(some 9), none, .bin .eql (t 7) (t 8)⟩])
  (.cond (t 9)
  (.seq (.reg [⟨(some 6), none, .mv (Ki 1)⟩])
  .ret)
  .skip))
  (.seq (.reg [Im 10 0, Im 11 1, Im 12 2, ⟨(some 13), none, .build [(.str []), (.str [])] [(0, 1, (t 11)), (1, 1, (t 12))]⟩, ⟨(some 14), none, .mget (true, [.str, .str]) (.int .i64 0) false (t 10) (t 13)⟩, Im 6 14])
  .ret)))
theorem fn71 : Fn Go.Proofs.Try.prog 71 15 [.inl 6] c71 :=
  ⟨⟨_, _, Go.Proofs.Try.func71, rfl, by kernel_rfl, Go.Proofs.Try.ntmps71, by kernel_rfl, ⟨fun f => imp.contains f, false, fun _ => false, false⟩, by kernel_rfl⟩⟩
def c79 : C :=
  (.seq (.reg [⟨(some 2), none, .box (t 0)⟩, ⟨(some 4), none, .mv (k .nils)⟩])
  (.seq (.reg [Im 8 1, ⟨(some 9), none, .bsl 1 [(t 8)]⟩, Im 5 9])
  (.seq (.seq (.reg [⟨(some 6), none, .mv (Ki 0)⟩])
  (.block 0
  (.loop
  (.seq (.seq (.reg [Im 10 6, Im 11 5, Iz 12 11, ⟨(some 13), none, .bin .lss (t 10) (t 12)⟩, Im 14 13, Jm 15 14 true 6, ⟨(some 16), (some (14, true)), .bin .lss (t 15) (Ki 1000)⟩, ⟨(some 17), none, .pick (t 14) (t 16) (k (.bool false))⟩])
  (.cond (t 17)
  .skip
  (.exit 0)))
  (.seq (.block 1
  (.seq (.reg [⟨(some 7), none, .mv (Ki 0)⟩])
  (.block 2
  (.loop
  (.seq (.seq (.reg [Im 20 7, If 21 0 2, Il 22 21, Iz 23 22, ⟨(some 24), none, .bin .lss (t 20) (t 23)⟩])
  (.cond (t 24)
  .skip
  (.exit 2)))
  (.seq (.block 3
  (.seq (.draw 0 [(If 27 0 2, []), (Il 28 27, []), (Im 29 7, []), (⟨(some 30), none, .iaddr 2 (t 28) (t 29)⟩, []), (If 31 0 30, []), (Il 32 31, []), (Im 33 5, []), (Im 34 6, []), (⟨(some 35), none, .iaddr 1 (t 33) (t 34)⟩, []), (Il 36 35, []), (⟨(some 37), none, .bin .eql (t 32) (t 36)⟩, []), (Im 38 37, []), (Jm 39 38 true 5, []), (Jf 40 38 true 0 2, []), (Jl 41 38 true 40, []), (Jm 42 38 true 7, []), (⟨(some 43), (some (38, true)), .iaddr 2 (t 41) (t 42)⟩, []), (Jf 44 38 true 1 43, []), (Jl 45 38 true 44, []), (⟨(some 46), (some (38, true)), .pcall (k (.fn 56 [] [])) [(t 39), (t 45)]⟩, []), (⟨(some 47), (some (38, true)), .un .not (t 46)⟩, []), (⟨(some 48), none, .pick (t 38) (t 47) (k (.bool false))⟩, [])])
  (.cond (t 48)
  (.reg [Im 49 5, If 50 0 2, Il 51 50, Im 52 7, ⟨(some 53), none, .iaddr 2 (t 51) (t 52)⟩, If 54 1 53, Il 55 54, ⟨(some 56), none, .bsl 1 [(t 55)]⟩, ⟨(some 57), none, .app false 1 16 (t 49) (t 56)⟩, Im 5 57])
  .skip)))
  (.reg [Im 25 7, ⟨(some 26), none, .bin .add (t 25) (Ki 1)⟩, Im 7 26])))))))
  (.reg [Im 18 6, ⟨(some 19), none, .bin .add (t 18) (Ki 1)⟩, Im 6 19]))))))
  (.seq (.reg [Im 58 5, Im 4 58])
  .ret))))
theorem fn79 : Fn Go.Proofs.Try.prog 79 59 [.inl 4] c79 :=
  ⟨⟨_, _, Go.Proofs.Try.func79, rfl, by kernel_rfl, Go.Proofs.Try.ntmps79, by kernel_rfl, ⟨fun f => imp.contains f, false, fun _ => false, false⟩, by kernel_rfl⟩⟩
def c110 : C :=
  (.seq (.reg [⟨(some 3), none, .box (t 1)⟩, ⟨(some 4), none, .mv (Ki 0)⟩])
  (.seq (.seq (.reg [Im 6 0, Iz 7 6, ⟨(some 8), none, .mv (Ki 0)⟩])
  (.block 0
  (.loop
  (.seq (.reg [⟨(some 9), none, .bin .lss (t 8) (t 7)⟩])
  (.seq (.cond (t 9)
  .skip
  (.exit 0))
  (.seq (.block 1
  (.seq (.reg [Im 10 8, Im 5 10])
  (.seq (.draw 0 [(Ia 11 2 3, []), (Im 12 0, []), (Im 13 5, []), (⟨(some 14), none, .iaddr 2 (t 12) (t 13)⟩, []), (Ia 15 2 14, []), (⟨(some 16), none, .eqa [.str, .str] false (t 11) (t 15)⟩, [])])
  (.cond (t 16)
  (.seq (.reg [Im 17 5, Im 4 17])
  .ret)
  .skip))))
  (.reg [⟨(some 18), none, .bin .add (t 8) (Ki 1)⟩, Im 8 18])))))))
  (.seq (.reg [⟨(some 4), none, .mv (k (.int .i64 (-1)))⟩])
  .ret)))
theorem fn110 : Fn Go.Proofs.Try.prog 110 19 [.inl 4] c110 :=
  ⟨⟨_, _, Go.Proofs.Try.func110, rfl, by kernel_rfl, Go.Proofs.Try.ntmps110, by kernel_rfl, ⟨fun f => imp.contains f, false, fun _ => false, false⟩, by kernel_rfl⟩⟩
end GP
namespace GP
abbrev Sb := List UInt8
abbrev Ed := Sb × Sb
def ecnt (c : Sb → Sb → Int) (a b : Sb) : List Ed → Int
  | [] => 0
  | e :: E => (if e.1 = a then c e.2 b else 0) + ecnt c a b E
structure Cnt (E : List Ed) (c : Sb → Sb → Int) (r : Sb → Nat) : Prop where
  rank : ∀ e ∈ E, r e.2 < r e.1
  eq : ∀ a b, c a b = if a = b then 1 else ecnt c a b E
variable {E : List Ed} {c : Sb → Sb → Int} {r : Sb → Nat}
theorem ecnt_app (A B : List Ed) (a b : Sb) : ecnt c a b (A ++ B) = ecnt c a b A + ecnt c a b B := by
  induction A with
  | nil => simp [ecnt]
  | cons e A ih => simp only [List.cons_append, ecnt, ih]; omega
theorem ecnt_nn {a b : Sb} : ∀ (E : List Ed), (∀ e ∈ E, e.1 = a → 0 ≤ c e.2 b) → 0 ≤ ecnt c a b E
  | [], _ => by simp [ecnt]
  | e :: E, h => by
    have := ecnt_nn E fun x hx => h x (by simp [hx])
    have := h e (by simp)
    unfold ecnt; split <;> simp_all <;> omega
theorem ecnt_pos {a b : Sb} : ∀ (E : List Ed), (∀ e ∈ E, e.1 = a → 0 ≤ c e.2 b) → ∀ e ∈ E, e.1 = a → c e.2 b ≤ ecnt c a b E
  | x :: E, h, e, he, h1 => by
    have h2 := ecnt_nn E fun x hx => h x (by simp [hx])
    have h3 := h x (by simp)
    unfold ecnt
    rcases List.mem_cons.1 he with rfl | he
    · rw [if_pos h1]; omega
    · have := ecnt_pos E (fun x hx => h x (by simp [hx])) e he h1
      split <;> simp_all <;> omega
theorem ecnt_ne {a b : Sb} : ∀ (E : List Ed), ecnt c a b E ≠ 0 → ∃ e ∈ E, e.1 = a ∧ c e.2 b ≠ 0
  | [], h => by simp [ecnt] at h
  | e :: E, h => by
    unfold ecnt at h
    by_cases h1 : e.1 = a ∧ c e.2 b ≠ 0
    · exact ⟨e, by simp, h1⟩
    · have : ecnt c a b E ≠ 0 := by
        intro h0; rw [h0] at h
        split at h <;> simp_all
      obtain ⟨x, hx, h2⟩ := ecnt_ne E this
      exact ⟨x, by simp [hx], h2⟩
namespace Cnt
theorem nn (h : Cnt E c r) (b : Sb) : ∀ (n : Nat) (a : Sb), r a < n → 0 ≤ c a b
  | 0, a, hn => by omega
  | n + 1, a, hn => by
    rw [h.eq]
    split
    · omega
    · exact ecnt_nn E fun e he h1 => nn h b n e.2 (by have := h.rank e he; rw [h1] at this; omega)
theorem pos (h : Cnt E c r) (a b : Sb) : 0 ≤ c a b := h.nn b _ a (Nat.lt_succ_self _)
theorem self (h : Cnt E c r) (a : Sb) : c a a = 1 := by rw [h.eq, if_pos rfl]
theorem edge (h : Cnt E c r) {e : Ed} (he : e ∈ E) {b : Sb} (hb : c e.2 b ≠ 0) : c e.1 b ≠ 0 := by
  rw [h.eq]
  split
  · omega
  · have := ecnt_pos (a := e.1) (b := b) E (fun x _ _ => h.pos _ _) e he rfl
    have := h.pos e.2 b
    omega
theorem next (h : Cnt E c r) {a b : Sb} (hab : a ≠ b) (hc : c a b ≠ 0) : ∃ e ∈ E, e.1 = a ∧ c e.2 b ≠ 0 := by
  rw [h.eq, if_neg hab] at hc; exact ecnt_ne E hc
theorem fall (h : Cnt E c r) {b : Sb} : ∀ (n : Nat) (a : Sb), r a < n → c a b ≠ 0 → a = b ∨ r b < r a
  | 0, a, hn, _ => by omega
  | n + 1, a, hn, hc => by
    by_cases hab : a = b
    · exact .inl hab
    · obtain ⟨e, he, rfl, h2⟩ := h.next hab hc
      have := h.rank e he
      rcases fall h n e.2 (by omega) h2 with h3 | h3
      · rw [← h3]; exact .inr this
      · exact .inr (by omega)
theorem lt (h : Cnt E c r) {a b : Sb} (hc : c a b ≠ 0) : a = b ∨ r b < r a := h.fall _ a (Nat.lt_succ_self _) hc
theorem tr (h : Cnt E c r) {x b : Sb} (hx : c x b ≠ 0) : ∀ (n : Nat) (a : Sb), r a < n → c a x ≠ 0 → c a b ≠ 0
  | 0, a, hn, _ => by omega
  | n + 1, a, hn, hc => by
    by_cases hax : a = x
    · rw [hax]; exact hx
    · obtain ⟨e, he, rfl, h2⟩ := h.next hax hc
      exact h.edge he (tr h hx n e.2 (by have := h.rank e he; omega) h2)
theorem trans (h : Cnt E c r) {a x b : Sb} (h1 : c a x ≠ 0) (h2 : c x b ≠ 0) : c a b ≠ 0 := h.tr h2 _ a (Nat.lt_succ_self _) h1
theorem noin (h : Cnt E c r) {b : Sb} (hb : ∀ e ∈ E, e.2 ≠ b) : ∀ (n : Nat) (a : Sb), r a < n → a ≠ b → c a b = 0
  | 0, a, hn, _ => by omega
  | n + 1, a, hn, hab => Classical.byContradiction fun hc => by
    obtain ⟨e, he, rfl, h2⟩ := h.next hab hc
    exact h2 (noin h hb n e.2 (by have := h.rank e he; omega) (hb e he))
theorem noout (h : Cnt E c r) {a b : Sb} (ha : ∀ e ∈ E, e.1 ≠ a) (hab : a ≠ b) : c a b = 0 := Classical.byContradiction fun hc => by
  obtain ⟨e, he, h1, _⟩ := h.next hab hc
  exact ha e he h1
end Cnt
theorem ecnt_lin (k : Sb → Int) (s : Sb) (a b : Sb) : ∀ E : List Ed, ecnt (fun a b => c a b + c a s * k b) a b E = ecnt c a b E + ecnt c a s E * k b
  | [] => by simp [ecnt]
  | e :: E => by
    simp only [ecnt, ecnt_lin k s a b E]
    by_cases h : e.1 = a
    · simp only [if_pos h, Int.add_mul]; omega
    · simp only [if_neg h, Int.zero_add]
theorem ecnt_zero {a b : Sb} : ∀ (E : List Ed), (∀ e ∈ E, e.1 = a → c e.2 b = 0) → ecnt c a b E = 0 := fun E h => Classical.byContradiction fun hc => by
  obtain ⟨e, he, h1, h2⟩ := ecnt_ne E hc
  exact h2 (h e he h1)
namespace Cnt
theorem ret (h : Cnt E c r) (s : Sb) : ecnt c s s E = 0 := ecnt_zero E fun e he h1 => Classical.byContradiction fun hc => by
  have := h.rank e he
  rcases h.lt hc with h2 | h2
  · rw [h1, h2] at this; omega
  · rw [h1] at this; omega
theorem add (h : Cnt E c r) {s j : Sb} (hjs : c j s = 0) : ∃ r', Cnt (E ++ [(s, j)]) (fun a b => c a b + c a s * c j b) r' := by
  refine ⟨fun x => r x + if c x s ≠ 0 then r j + 1 else 0, ⟨fun e he => ?_, fun a b => ?_⟩⟩
  · rcases List.mem_append.1 he with he | he
    · have := h.rank e he
      by_cases h1 : c e.2 s ≠ 0
      · rw [if_pos h1, if_pos (h.edge he h1)]; omega
      · rw [if_neg h1]; split <;> omega
    · rw [List.mem_singleton] at he; subst he
      show r j + (if c j s ≠ 0 then _ else _) < r s + (if c s s ≠ 0 then _ else _)
      rw [hjs, h.self]; simp; omega
  · rw [ecnt_app, ecnt_lin (c j) s]
    simp only [ecnt]
    by_cases hab : a = b
    · subst hab
      rw [if_pos rfl, h.self]
      have : c a s * c j a = 0 := by
        by_cases h1 : c a s = 0
        · rw [h1]; simp
        · by_cases h2 : c j a = 0
          · rw [h2]; simp
          · exact absurd hjs (h.trans h2 h1)
      omega
    · rw [if_neg hab]
      have e1 := h.eq a b
      rw [if_neg hab] at e1
      have e3 : c j b + c j s * c j b = c j b := by rw [hjs]; omega
      by_cases has : a = s
      · subst has
        rw [if_pos rfl, e3, e1, h.ret, h.self]; omega
      · have e2 := h.eq a s
        rw [if_neg has] at e2
        rw [if_neg (fun e => has e.symm), e1, ← e2]; omega
theorem del {A B : List Ed} {s j : Sb} (h : Cnt (A ++ (s, j) :: B) c r) : Cnt (A ++ B) (fun a b => c a b - c a s * c j b) r := by
  have hjs : c j s = 0 := Classical.byContradiction fun hc => by
    have := h.rank (s, j) (by simp)
    simp only at this
    rcases h.lt hc with h1 | h1
    · rw [h1] at this; omega
    · omega
  have hmem : ∀ e, e ∈ A ++ B → e ∈ A ++ (s, j) :: B := fun e he => by
    rcases List.mem_append.1 he with he | he <;> simp [he]
  have hsplit : ∀ a b, ecnt c a b (A ++ (s, j) :: B) = ecnt c a b (A ++ B) + if s = a then c j b else 0 := fun a b => by
    simp only [ecnt_app, ecnt]; omega
  refine ⟨fun e he => h.rank e (hmem e he), fun a b => ?_⟩
  have hl : ecnt (fun a b => c a b - c a s * c j b) a b (A ++ B) = ecnt c a b (A ++ B) - ecnt c a s (A ++ B) * c j b := by
    have := ecnt_lin (c := c) (fun b => - c j b) s a b (A ++ B)
    have e : (fun a b => c a b + c a s * - c j b) = (fun a b => c a b - c a s * c j b) := by
      funext a b; rw [Int.mul_neg]; omega
    rw [e] at this
    rw [this, Int.mul_neg]; omega
  rw [hl]
  by_cases hab : a = b
  · subst hab
    rw [if_pos rfl, h.self]
    have : c a s * c j a = 0 := by
      by_cases h1 : c a s = 0
      · rw [h1]; simp
      · by_cases h2 : c j a = 0
        · rw [h2]; simp
        · exact absurd hjs (h.trans h2 h1)
    omega
  · rw [if_neg hab]
    have e1 := h.eq a b
    rw [if_neg hab, hsplit] at e1
    by_cases has : a = s
    · subst has
      have e2 := h.ret a
      rw [hsplit, if_pos rfl, hjs] at e2
      rw [if_pos rfl] at e1
      rw [h.self]
      have : ecnt c a a (A ++ B) = 0 := by omega
      rw [this]; omega
    · have e2 := h.eq a s
      rw [if_neg has, hsplit, if_neg (fun e => has e.symm)] at e2
      rw [if_neg (fun e => has e.symm)] at e1
      rw [e1, e2]; simp
theorem cntP_le {p q : Ed → Bool} (hpq : ∀ e, p e = true → q e = true) (E : List Ed) : E.countP p ≤ E.countP q := List.countP_mono_left fun e _ => hpq e
theorem out_le {n : Nat} {a b : Sb} (hc : ∀ e ∈ E, e.1 = a → c e.2 b ≤ 2 ^ n) : ∀ (F : List Ed), (∀ e ∈ F, e ∈ E) → ecnt c a b F ≤ (F.countP fun e => e.1 == a) * 2 ^ n
  | [], _ => by simp [ecnt]
  | e :: F, h => by
    have ih := out_le hc F fun x hx => h x (by simp [hx])
    have h0 := hc e (h e (by simp))
    unfold ecnt
    by_cases h1 : e.1 = a
    · rw [if_pos h1, List.countP_cons_of_pos (by simpa using h1)]
      have := h0 h1
      rw [Int.natCast_add, Int.add_mul]
      omega
    · rw [if_neg h1, List.countP_cons_of_neg (by simpa using h1)]; omega
theorem bound (h : Cnt E c r) (b : Sb) : ∀ (n : Nat) (a : Sb), r a < n → c a b ≤ 2 ^ (E.countP fun e => decide (r e.1 ≤ r a))
  | 0, a, hn => by omega
  | n + 1, a, hn => by
    rw [h.eq]
    have one : ∀ k : Nat, (1 : Int) ≤ 2 ^ k := fun k => by
      have : (1 : Nat) ≤ 2 ^ k := Nat.one_le_two_pow
      exact_mod_cast this
    split
    · exact one _
    · have key : ∀ e ∈ E, e.1 = a → c e.2 b ≤ 2 ^ (E.countP fun e => decide (r e.1 < r a)) := fun e he h1 => by
        have hr := h.rank e he
        rw [h1] at hr
        have := bound h b n e.2 (by omega)
        refine Int.le_trans this ?_
        have h2 := cntP_le (p := fun x : Ed => decide (r x.1 ≤ r e.2)) (q := fun x : Ed => decide (r x.1 < r a)) (fun x hx => by simp only [decide_eq_true_eq] at hx ⊢; omega) E
        have := Nat.pow_le_pow_right (n := 2) (by omega) h2
        exact_mod_cast this
      have h3 := out_le key E fun e he => he
      refine Int.le_trans h3 ?_
      have h4 : E.countP (fun e => e.1 == a) + E.countP (fun e => decide (r e.1 < r a)) ≤ E.countP (fun e => decide (r e.1 ≤ r a)) := by
        clear h h3 key one bound
        induction E with
        | nil => simp
        | cons e E ih =>
          simp only [List.countP_cons]
          by_cases h1 : e.1 = a
          · subst h1; simp; omega
          · have : (e.1 == a) = false := by simpa using h1
            rw [this]
            by_cases h2 : r e.1 < r a
            · have : r e.1 ≤ r a := by omega
              simp [h2, this]; omega
            · simp only [h2, decide_false, Bool.false_eq_true, if_false]; split <;> omega
      have h5 : ∀ k m : Nat, ((k : Int)) * 2 ^ m ≤ 2 ^ (k + m) := fun k m => by
        have : k * 2 ^ m ≤ 2 ^ (k + m) := by rw [Nat.pow_add]; exact Nat.mul_le_mul_right _ (Nat.le_of_lt Nat.lt_two_pow_self)
        exact_mod_cast this
      refine Int.le_trans (h5 _ _) ?_
      have := Nat.pow_le_pow_right (n := 2) (by omega) h4
      exact_mod_cast this
theorem le (h : Cnt E c r) (a b : Sb) : c a b ≤ 2 ^ E.length := by
  refine Int.le_trans (h.bound b _ a (Nat.lt_succ_self _)) ?_
  have := Nat.pow_le_pow_right (n := 2) (by omega) (List.countP_le_length (p := fun e : Ed => decide (r e.1 ≤ r a)) (l := E))
  exact_mod_cast this
end Cnt
def step1 (x : Sb) : List Sb → List Ed → List Sb
  | out, [] => out
  | out, e :: E => step1 x (if e.1 = x ∧ ¬ e.2 ∈ out then out ++ [e.2] else out) E
def bfs (E : List Ed) : Nat → Nat → List Sb → List Sb
  | 0, _, out => out
  | f + 1, i, out => if i < out.length ∧ i < 1000 then bfs E f (i + 1) (step1 (out.getD i []) out E) else out
theorem step1_spec (x : Sb) : ∀ (F : List Ed) (out : List Sb), ∃ L, step1 x out F = out ++ L ∧ (∀ y ∈ L, (x, y) ∈ F) ∧ (∀ e ∈ F, e.1 = x → e.2 ∈ out ++ L) ∧ (out.Nodup → (out ++ L).Nodup)
  | [], out => ⟨[], by simp [step1], by simp, by simp, by simp⟩
  | e :: F, out => by
    unfold step1
    split
    · rename_i h
      obtain ⟨L, h1, h2, h3, h4⟩ := step1_spec x F (out ++ [e.2])
      refine ⟨e.2 :: L, by rw [h1]; simp, fun y hy => ?_, fun d hd hx => ?_, fun hn => ?_⟩
      · rcases List.mem_cons.1 hy with rfl | hy
        · rw [← h.1]; simp
        · simp [h2 y hy]
      · rcases List.mem_cons.1 hd with rfl | hd
        · simp
        · have := h3 d hd hx; simpa using this
      · have := h4 (List.nodup_append.2 ⟨hn, by simp, fun a ha b hb e' => by rw [List.mem_singleton] at hb; subst hb; subst e'; exact h.2 ha⟩)
        simpa using this
    · rename_i h
      obtain ⟨L, h1, h2, h3, h4⟩ := step1_spec x F out
      refine ⟨L, h1, fun y hy => by simp [h2 y hy], fun d hd hx => ?_, h4⟩
      rcases List.mem_cons.1 hd with rfl | hd
      · have : d.2 ∈ out := Classical.byContradiction fun hn => h ⟨hx, hn⟩
        simp [this]
      · exact h3 d hd hx
theorem nodup_len {l m : List Sb} (hn : l.Nodup) (h : ∀ x ∈ l, x ∈ m) : l.length ≤ m.length := by
  induction l generalizing m with
  | nil => simp
  | cons x l ih =>
    rw [List.nodup_cons] at hn
    have hx := h x (by simp)
    have := ih (m := m.erase x) hn.2 fun y hy => by
      have hyx : y ≠ x := fun e => hn.1 (e ▸ hy)
      exact (List.mem_erase_of_ne hyx).2 (h y (by simp [hy]))
    rw [List.length_erase_of_mem hx] at this
    have : 0 < m.length := List.length_pos_of_mem hx
    simp only [List.length_cons]; omega
theorem bfs_spec (h : Cnt E c r) (a : Sb) (hE : E.length ≤ 900) : ∀ (f i : Nat) (out : List Sb), (∀ x ∈ out, c a x ≠ 0) → a ∈ out → out.Nodup → (∀ x ∈ out, x = a ∨ ∃ e ∈ E, e.2 = x) → (∀ k < i, ∀ x, out[k]? = some x → ∀ e ∈ E, e.1 = x → e.2 ∈ out) → i ≤ out.length → E.length + 2 ≤ f + i →
    ∀ b, b ∈ bfs E f i out ↔ c a b ≠ 0 := by
  intro f
  induction f with
  | zero =>
    intro i out h1 h2 h3 h4 h5 h6 h7
    have := nodup_len (m := a :: E.map (·.2)) h3 fun x hx => by
      rcases h4 x hx with rfl | ⟨e, he, rfl⟩
      · simp
      · exact List.mem_cons_of_mem _ (List.mem_map_of_mem he)
    simp at this; omega
  | succ f ih =>
    intro i out h1 h2 h3 h4 h5 h6 h7 b
    have hlen := nodup_len (m := a :: E.map (·.2)) h3 fun x hx => by
      rcases h4 x hx with rfl | ⟨e, he, rfl⟩
      · simp
      · exact List.mem_cons_of_mem _ (List.mem_map_of_mem he)
    simp only [List.length_cons, List.length_map] at hlen
    unfold bfs
    split
    · rename_i hi
      obtain ⟨L, g1, g2, g3, g4⟩ := step1_spec (out.getD i []) E out
      have hx : out[i]? = some (out.getD i []) := by rw [List.getD_eq_getElem?_getD, List.getElem?_eq_getElem hi.1]; rfl
      rw [g1]
      refine ih (i + 1) (out ++ L) (fun x hx' => ?_) (by simp [h2]) (g4 h3) (fun x hx' => ?_) (fun k hk x hxk e he h1' => ?_) (by simp; omega) (by omega) b
      · rcases List.mem_append.1 hx' with hx' | hx'
        · exact h1 x hx'
        · have hin := g2 x hx'
          exact h.trans (h1 _ (List.mem_of_getElem? hx)) (h.edge (e := (out.getD i [], x)) hin (by rw [h.self]; omega))
      · rcases List.mem_append.1 hx' with hx' | hx'
        · exact h4 x hx'
        · exact .inr ⟨_, g2 x hx', rfl⟩
      · rcases Nat.lt_or_ge k i with hk' | hk'
        · rw [List.getElem?_append_left (by omega)] at hxk
          exact List.mem_append_left _ (h5 k hk' x hxk e he h1')
        · have : k = i := by omega
          subst this
          rw [List.getElem?_append_left hi.1, hx] at hxk
          injection hxk with hxk
          exact g3 e he (by rw [h1', hxk])
    · rename_i hi
      have hil : i = out.length := by omega
      constructor
      · exact h1 b
      · have key : ∀ (n : Nat) (x : Sb), r x < n → x ∈ out → c x b ≠ 0 → b ∈ out := by
          intro n
          induction n with
          | zero => intro x hx; omega
          | succ n ihn =>
            intro x hx hm hc
            by_cases hxb : x = b
            · rw [← hxb]; exact hm
            · obtain ⟨e, he, e1, e2⟩ := h.next hxb hc
              obtain ⟨k, hk, hk2⟩ := List.getElem_of_mem hm
              have hcl := h5 k (by omega) x (by rw [List.getElem?_eq_getElem hk, hk2]) e he e1
              exact ihn e.2 (by have := h.rank e he; rw [e1] at this; omega) hcl e2
        exact key _ a (Nat.lt_succ_self _) h2
theorem reached (h : Cnt E c r) (a : Sb) (hE : E.length ≤ 900) (b : Sb) : b ∈ bfs E (E.length + 2) 0 [a] ↔ c a b ≠ 0 :=
  bfs_spec h a hE _ 0 [a] (fun x hx => by rw [List.mem_singleton] at hx; subst hx; rw [h.self]; omega) (by simp) (by simp) (fun x hx => .inl (by simpa using hx)) (fun k hk => by omega) (by simp) (by omega) b
end GP
namespace GP
open Go
inductive Frz : D → Hp → D → Hp → Prop where
  | refl (r : D) (H : Hp) : Frz r H r H
  | step {r r2 : D} {H H2 : Hp} (o : Nat) (cs : List D) : H[o]? = some (.row cs) → Frz (r.fz o cs) (H.set o .dead) r2 H2 → Frz r H r2 H2
section
variable {P : Program}
def SameOb (x y : Ob) : Prop := x = y ∨ ∃ cs, x = .row cs ∧ y = .row (D.eraseL cs)
def SameH (Hm H1 : Hp) : Prop := Hm.length = H1.length ∧ ∀ (o : Nat) x y, Hm[o]? = some x → H1[o]? = some y → SameOb x y
theorem SameH.refl (H : Hp) : SameH H H := ⟨rfl, fun o x y h h' => by rw [h] at h'; injection h' with h'; exact .inl h'⟩
def Crs (a b : D) : Prop := ∀ c v, Rep c a v → Rep c b v
theorem Crs.refl (a : D) : Crs a a := fun _ _ h => h
theorem Crs.erase {a b : D} (h : a.erase = b) : Crs a b := fun _ _ hr => h ▸ hr.erase
theorem Crs.trans {a b d : D} (h : Crs a b) (k : Crs b d) : Crs a d := fun c v hr => k c v (h c v hr)
def Closed (H H1 : Hp) (n : Nat) : Prop := H.length ≤ H1.length ∧ ∀ (o : Nat) x cs, H1[o]? = some x → x.cells? = some cs → H[o]? = some x ∨ D.clL H1.length n cs = true
variable [HasG P]
abbrev FsE := List (FuncId × (Hp → List D → Option (D × Hp)))
def lookE : FsE → Hp → FuncId → List D → Option (D × Hp)
  | [], _, _, _ => none
  | (g, φ) :: l, H, f, a => if f = g then φ H a else lookE l H f a
def inE : FsE → FuncId → Bool
  | [], _ => false
  | (g, _) :: l, f => decide (f = g) || inE l f
theorem lookE_nil (H : Hp) (f : FuncId) (a : List D) : lookE [] H f a = none := id rfl
theorem lookE_cons (g : FuncId) (φ : Hp → List D → Option (D × Hp)) (l : FsE) (H : Hp) (f : FuncId) (a : List D) : lookE ((g, φ) :: l) H f a = if f = g then φ H a else lookE l H f a := id rfl
theorem inE_nil (f : FuncId) : inE [] f = false := id rfl
theorem inE_cons (g : FuncId) (φ : Hp → List D → Option (D × Hp)) (l : FsE) (f : FuncId) : inE ((g, φ) :: l) f = (decide (f = g) || inE l f) := id rfl
theorem lookE_in : ∀ {l : FsE} {H : Hp} {f : FuncId} {a : List D}, inE l f = false → lookE l H f a = none
  | [], _, _, _, _ => rfl
  | (g, φ) :: l, H, f, a, h => by
    simp only [inE, Bool.or_eq_false_iff, decide_eq_false_iff_not] at h
    simp only [lookE]
    rw [if_neg h.1]; exact lookE_in h.2
def XE (l : Fs) (m : FsH) (e : FsE) : Pred := fun f args H T Q => match look l f (D.eraseL args) with
  | some r => Q r H T
  | none => match lookH m H f (D.eraseL args) with
    | some r => Q r H T
    | none => match lookE e H f (D.eraseL args) with
      | some (r, H') => Q r H' T
      | none => False
def OkAtE (P : Program) [HasG P] (f : FuncId) (φ : Hp → List D → Option (D × Hp)) : Prop := ∀ H args r H', φ H args = some (r, H') → ∀ args', D.eraseL args' = args → ∀ T (Q : Post), Q r H' T → Snd P f args' H T Q
def OkE (P : Program) [HasG P] (m : FsE) : Prop := ∀ H f args r H', lookE m H f args = some (r, H') → ∀ args', D.eraseL args' = args → ∀ T (Q : Post), Q r H' T → Snd P f args' H T Q
theorem OkE.nil : OkE P [] := fun _ _ _ _ _ h => by simp [lookE] at h
theorem OkE.cons {f : FuncId} {φ : Hp → List D → Option (D × Hp)} {m : FsE} (h : OkAtE P f φ) (k : OkE P m) : OkE P ((f, φ) :: m) := by
  intro H g args r H' hr
  simp only [lookE] at hr
  split at hr
  · rename_i e; subst e; exact h H args r H' hr
  · exact k H g args r H' hr
theorem XE.X {l : Fs} {m : FsH} {e : FsE} (k : Ok P l) (k' : OkH P m) (k'' : OkE P e) : ∀ f args H T Q Q', (∀ r H T, Q r H T → Q' r H T) → XE l m e f args H T Q → Snd P f args H T Q' := by
  intro f args H T Q Q' hQ h
  unfold XE at h
  split at h
  · rename_i r hr
    exact k f _ r hr args rfl H T Q' (hQ _ _ _ h)
  · split at h
    · rename_i r hr
      exact k' H f _ r hr args rfl T Q' (hQ _ _ _ h)
    · split at h
      · rename_i r H' hr
        exact k'' H f _ r H' hr args rfl T Q' (hQ _ _ _ h)
      · exact h.elim
def pcallN (X : Pred) (args : List D) (K : D → S → Prop) (s : S) (d : D) : Prop := pcallK X args K s d
theorem pcallE {l : Fs} {m : FsH} {e : FsE} (hm : MonoH m) (args : List D) (K : D → S → Prop) (s : S) (f : FuncId) (first cap : List D) :
    pcallK (XE l m e) args K s (.fn f first cap) = if inE e f = true then pcallN (XE l m e) args K s (.fn f first cap) else orK K s (look l f (D.eraseL (first ++ args ++ cap))) (lookH m s.H f (D.eraseL (first ++ args ++ cap))) := by
  cases he : inE e f with
  | true => rfl
  | false =>
    rw [if_neg (by simp)]
    have hx : ∀ a H T Q, XE l m e f a H T Q = XM l m f a H T Q := by
      intro a H T Q
      unfold XE XM
      (rw [lookE_in he]) <;> rfl
    rw [← pcallH hm]
    simp only [pcallK, eq_iff_iff]
    unfold Pure
    simp only [hx]
def orE (Q : Post) (T : Tk) : Option (D × Hp) → Prop
  | some (r, H') => Q r H' T
  | none => False
def orX (Q : Post) (H : Hp) (T : Tk) : Option D → Option D → Option (D × Hp) → Prop
  | some r, _, _ => Q r H T
  | none, some r, _ => Q r H T
  | none, none, x => orE Q T x
theorem XE_eq (l : Fs) (m : FsH) (e : FsE) (f : FuncId) (args : List D) (H : Hp) (T : Tk) (Q : Post) : XE l m e f args H T Q = orX Q H T (look l f (D.eraseL args)) (lookH m H f (D.eraseL args)) (lookE e H f (D.eraseL args)) := by
  unfold XE
  cases look l f (D.eraseL args) with
  | some r => rfl
  | none =>
    cases lookH m H f (D.eraseL args) with
    | some r => rfl
    | none =>
      cases lookE e H f (D.eraseL args) with
      | some x => rfl
      | none => rfl
theorem orX_s (Q : Post) (H : Hp) (T : Tk) (r : D) (x : Option D) (y : Option (D × Hp)) : orX Q H T (some r) x y = Q r H T := id rfl
theorem orX_n (Q : Post) (H : Hp) (T : Tk) (r : D) (y : Option (D × Hp)) : orX Q H T none (some r) y = Q r H T := id rfl
theorem orX_e (Q : Post) (H : Hp) (T : Tk) (y : Option (D × Hp)) : orX Q H T none none y = orE Q T y := id rfl
theorem orE_s (Q : Post) (T : Tk) (r : D) (H' : Hp) : orE Q T (some (r, H')) = Q r H' T := id rfl
theorem Closed.refl (H : Hp) (n : Nat) : Closed H H n := ⟨Nat.le_refl _, fun _ _ _ h _ => .inl h⟩
end
end GP
namespace GP
open Go Go.Proofs Go.Sort
section
variable {P : Program}
theorem Inv.grownB {b : Bool} {c : Cx} {w w' : World} {H : Hp} (k : Inv c w H) (hb : Below (b, w.heap.size) w w') : Inv c w' H := by
  have lt : ∀ {a : Addr} {v : Value}, w.cell? a = some v → w'.cell? a = some v := by
    intro a v h
    have hlt : a.block < w.heap.size := by
      rcases Nat.lt_or_ge a.block w.heap.size with h' | h'
      · exact h'
      · simp [World.cell?, Array.getElem?_eq_none h'] at h
    unfold World.cell? at h ⊢
    rw [hb.block _ hlt]; exact h
  refine ⟨fun a v h => lt (k.keep a v h), Nat.le_trans k.low hb.size, ?_, k.free, ?_, k.apart, fun o es clk ho => ⟨(k.map o es clk ho).1, by rw [hb.block _ (k.own o _ ho rfl).2.2.1]; exact (k.map o es clk ho).2⟩, fun o m sn se la ho => (k.iter o m sn se la ho).mono (Cx.le.refl c) rfl (by rw [hb.block _ (k.own o _ ho rfl).2.2.1]), ?_, k.tokrow, k.toks⟩
  · intro o x cs h1 h2
    obtain ⟨vs, rest, e, fr, h, g⟩ := (k.row o x cs h1 h2).hold
    have hlt : c.β o < w.heap.size := by
      rcases Nat.lt_or_ge (c.β o) w.heap.size with h' | h'
      · exact h'
      · rw [Array.getElem?_eq_none h'] at h; cases h
    exact ⟨vs, rest, e, fr, by rw [hb.block _ hlt]; exact h, g⟩
  · intro o x h1 h2
    obtain ⟨a, b, d, e⟩ := k.own o x h1 h2
    exact ⟨a, b, Nat.lt_of_lt_of_le d hb.size, e⟩
  · intro τ n z h
    obtain ⟨a, b, d, e, f⟩ := k.tok τ n z h
    refine ⟨a, Nat.lt_of_lt_of_le b hb.size, d, e, fun j h1 h2 => ?_⟩
    obtain ⟨g1, g2, g3⟩ := f j h1 h2
    have hbl : w'.heap[(c.κ τ).1.block]? = w.heap[(c.κ τ).1.block]? := hb.block _ b
    refine ⟨?_, ?_, g3⟩
    · rw [← g1]; unfold World.cell?; rw [hbl]
    · rw [← g2]; unfold World.frozen?; rw [hbl]
theorem putCells_set (vs : List Value) : ∀ (w : World) (b off : Nat), putCells w b off vs = w.setCells b off vs := by
  induction vs with
  | nil => intros; rfl
  | cons v vs ih => intro w b off; rw [putCells, ih]; rfl
theorem put_grown {c : Cx} {w : World} {H : Hp} (k : Inv c w H) {o : Nat} {cs ds : List D} {us : List Value} (ho : H[o]? = some (.row cs)) (kc : Cells c ds us) {off : Nat} (h1 : off + ds.length ≤ cs.length) (m : Nat) (os : Array Obj) :
    Inv c (grow ((Sort.ahead w m).setCells (c.β o) off us) os) (H.set o (.row (cs.take off ++ ds ++ cs.drop (off + ds.length)))) ∧ Below c.bb w (grow ((Sort.ahead w m).setCells (c.β o) off us) os) := by
  have k1 : Inv c (Sort.ahead w m) H := Inv.congr (w := w) (w' := Sort.ahead w m) rfl k
  have hf := row_fits k ho rfl
  obtain ⟨_, g2, g3⟩ := put_inv (P := default) k1 ho rfl kc (off := off) (by omega) (by omega)
  rw [putCells_set] at g2 g3
  have hg : ∀ (b : Bool) (x : World), Below (b, x.heap.size) x (grow x os) := fun b x => ⟨rfl, rfl, rfl, by simp, fun i hi => by simp [grow, Array.getElem?_append_left hi], fun _ => Nat.le_refl _⟩
  refine ⟨g2.grownB (hg false _), ?_⟩
  have h0 : Below c.bb w (Sort.ahead w m) := ⟨rfl, rfl, rfl, Nat.le_refl _, fun _ _ => rfl, fun _ => Nat.le_add_right _ _⟩
  exact (h0.trans g3).trans (Below.mono (b := c.bb.1) (hg _ _) g2.low)
variable [inst : HasG P]
end
end GP
namespace GP
open Go Go.Proofs Go.Sort Go.RowKit
theorem putRow_map {α : Type} [Inhabited α] (enc : α → Value) (W : World) (b off : Nat) (d : Array α) : Sort.putRow enc W b off d = Sort.putRow id W b off (d.map enc) := by
  unfold Sort.putRow
  congr 1
  funext c
  unfold Sort.putCells
  apply Array.ext_getElem?
  intro k
  simp only [Array.getElem?_mapIdx, Array.size_map]
  cases c[k]? with
  | none => rfl
  | some x =>
    simp only [Option.map_some, id]
    by_cases h : off ≤ k ∧ k < off + d.size
    · rw [if_pos h, if_pos h, getElem!_pos d _ (by omega), getElem!_pos _ _ (by simp; omega), Array.getElem_map]
    · rw [if_neg h, if_neg h]
theorem setCells_all (W : World) (b off : Nat) (F vals : List Value) (hl : F.length = vals.length) (h : Holds id W b off F.toArray) : W.setCells b off vals = Sort.putRow id W b off vals.toArray := by
  have e0 : Sort.putRow id W b off F.toArray = W := putRow_self id _ _ _ _ h
  have e1 := setCells_putRow W b off vals 0 F.toArray (by simp [hl])
  rw [e0, Nat.add_zero] at e1
  rw [e1]
  congr 1
  apply ext_get!
  · simp [hl]
  · intro t ht
    rw [get_setMany _ _ _ _ (by simpa [hl] using ht), if_pos (by simpa [hl] using ht)]
    simp only [Nat.sub_zero]
    rw [getElem!_pos vals t (by simpa [hl] using ht), getElem!_pos vals.toArray t (by simpa [hl] using ht)]
    simp
def sortS (l : List (List UInt8)) : List (List UInt8) := l.mergeSort fun x y => decide (x ≤ y)
variable {P : Program} [HasG P]
theorem strs_snd {f : FuncId} (ef : ∀ args w, (callFunc f args).run P w = .ok (.enter f args) w) {H : Hp} {o off cap : Nat} {A B : List D} {l l' : List (List UInt8)} {rd : D} {rv : Nat → Nat → Value}
    (hC : ∀ (blk rc : Nat) (w : World), Holds encStr w blk off l.toArray → blk < w.heap.size → l.length ≤ rc → Calls P f #[.slice (some ⟨blk, off, none⟩) l.length rc] w fun e w' => e = .returned (rv blk rc) ∧ ∃ q os, w' = grow (Sort.putRow encStr (Sort.ahead w q) blk off l'.toArray) os)
    (hsl : l'.length = l.length) (hmem : ∀ s ∈ l', s ∈ l ∨ s = []) (hrv : ∀ (c : Cx) (rc : Nat), c.bd o = true → l.length ≤ cap → cap ≤ rc → off + rc * 1 ≤ c.sz o → Rep c rd (rv (c.β o) rc))
    (ho : H[o]? = some (.row (A ++ l.map D.str ++ B))) (hA : A.length = off) {T : Tk} {Q : Post} (hQ : Q rd (H.set o (.row (A ++ l'.map D.str ++ B))) T) :
    Snd P f [.ms false 1 o off l.length cap] H T Q := by
  intro c w args hg k1 kT kr
  match args, kr.len with
  | [va], _ =>
    have ra := kr.rep 0 (by simp) (by simp)
    simp only [List.getElem_cons_zero] at ra
    cases ra with
    | ms _ _ _ _ _ _ rc hb g1 g2 g3 =>
    refine .inl ⟨ef _ _, ?_⟩
    obtain ⟨vs, rest, e, fr, q1, q2, q4, q3⟩ := (k1.row o _ _ ho rfl).hold
    have hvl : vs.length = off + l.length + B.length := by rw [q2.len]; simp [hA]; omega
    have hown := k1.own o _ ho rfl
    have hblk : c.β o < w.heap.size := hown.2.2.1
    have hv : ∀ j (hj : j < l.length), vs[off + j]? = some (encStr l[j]) := fun j hj => by
      have h1 := q2.rep (off + j) (by simp [hA]; omega) (by omega)
      have e1 : (A ++ l.map D.str ++ B)[off + j]'(by simp [hA]; omega) = .str l[j] := by
        rw [List.getElem_append_left (by simp [hA]; omega), List.getElem_append_right (by omega)]
        simp [hA]
      rw [e1] at h1
      rw [List.getElem?_eq_getElem (by omega)]
      congr 1
      generalize vs[off + j]'(by omega) = u at h1
      cases h1; rfl
    have hH : Holds encStr w (c.β o) off l.toArray := by
      intro j hj
      have hj' : j < l.length := by simpa using hj
      constructor
      · simp only [World.cell?, q1]
        simp only [Option.isSome_none, Bool.false_eq_true, if_false, List.getElem?_toArray, id]
        rw [List.getElem?_append_left (by omega), hv j hj', getElem!_pos l.toArray j (by simpa using hj)]
        simp
      · simp only [World.frozen?, q1]
        have := q3 (off + j) (by omega)
        simpa using this
    have hrep := hrv c rc hb g1 g2 g3
    refine (hC (c.β o) rc w hH hblk (by omega)).mono ?_
    rintro e w' ⟨rfl, m, os, rfl⟩
    have hkc : Cells c (l'.map D.str) (l'.map encStr) := by
      refine ⟨by simp, fun d hd => ?_, fun i h h' => ?_⟩
      · obtain ⟨s, _, rfl⟩ := List.mem_map.1 hd; rfl
      · simp only [List.getElem_map]
        have hs := hmem _ (List.getElem_mem (l := l') (n := i) (by simpa using h))
        rcases hs with hs | hs
        case inr => rw [hs]; exact .str [] (by simp)
        obtain ⟨j, hj, e1⟩ := List.getElem_of_mem hs
        have h1 := q2.rep (off + j) (by simp [hA]; omega) (by omega)
        have e2 : (A ++ l.map D.str ++ B)[off + j]'(by simp [hA]; omega) = .str l[j] := by
          rw [List.getElem_append_left (by simp [hA]; omega), List.getElem_append_right (by omega)]
          simp [hA]
        rw [e2, e1] at h1
        generalize vs[off + j]'(by omega) = u at h1
        cases h1
        rename_i hlen
        exact .str _ hlen
    have hw : Sort.putRow encStr (Sort.ahead w m) (c.β o) off l'.toArray = (Sort.ahead w m).setCells (c.β o) off (l'.map encStr) := by
      rw [setCells_all (F := l.map encStr) _ _ _ _ (by simp [hsl]), putRow_map]
      · simp
      · intro j hj
        have hj' : j < l.length := by simpa using hj
        have h1 := hH j (by simpa using hj')
        rw [getElem!_pos l.toArray j (by simpa using hj')] at h1
        rw [getElem!_pos _ j hj]
        simpa using h1
    show CallPost _ _ _ _ (grow (Sort.putRow encStr (Sort.ahead w m) (c.β o) off l'.toArray) os)
    rw [hw]
    obtain ⟨z1, z2⟩ := put_grown k1 ho hkc (off := off) (by simp [hsl, hA]) m os
    have e3 : (A ++ l.map D.str ++ B).take off ++ l'.map D.str ++ (A ++ l.map D.str ++ B).drop (off + (l'.map D.str).length) = A ++ l'.map D.str ++ B := by
      have : off + (l'.map D.str).length = (A ++ l.map D.str).length := by simp [hA, hsl]
      rw [this, List.drop_left, List.append_assoc A, List.take_left' hA]
    rw [e3] at z1
    exact ⟨_, rfl, rd, _, T, c, hQ, hrep, z1, Cx.le.refl c, kT, z2⟩
theorem sorts_snd {ρ : Go.Shelf.Ren} (L : Go.Proofs.Lays.n190 P ρ) {f : FuncId} (hf : ρ.f 190 = f) (ef : ∀ args w, (callFunc f args).run P w = .ok (.enter f args) w) {H : Hp} {o off cap : Nat} {A B : List D} {l : List (List UInt8)}
    (ho : H[o]? = some (.row (A ++ l.map D.str ++ B))) (hA : A.length = off) (hn2 : l.length < 2 ^ 62) {T : Tk} {Q : Post} (hQ : Q (.tup []) (H.set o (.row (A ++ (sortS l).map D.str ++ B))) T) :
    Snd P f [.ms false 1 o off l.length cap] H T Q :=
  strs_snd ef (rv := fun _ _ => .tuple #[]) (fun blk rc w h1 h2 _ => by have := Any.slices_Sort_string L blk off rc l w h1 h2 (by omega); rwa [hf] at this) (List.length_mergeSort _) (fun s hs => .inl ((List.mergeSort_perm l _).mem_iff.1 hs))
    (fun c rc _ _ _ _ => .tup [] [] rfl fun i h => absurd h (by simp)) ho hA hQ
def padS (l : List (List UInt8)) : List (List UInt8) := Lib.compact l ++ List.replicate (l.length - (Lib.compact l).length) []
theorem compacts_snd {ρ : Go.Shelf.Ren} (L : Go.Proofs.Lays.n194 P ρ) {f : FuncId} (hf : ρ.f 194 = f) (ef : ∀ args w, (callFunc f args).run P w = .ok (.enter f args) w) {H : Hp} {o off cap : Nat} {A B : List D} {l : List (List UInt8)}
    (hc : (Lib.compact l).length ≤ l.length) (hm : ∀ s ∈ Lib.compact l, s ∈ l) (ho : H[o]? = some (.row (A ++ l.map D.str ++ B))) (hA : A.length = off) (hn2 : l.length < 2 ^ 62) {T : Tk} {Q : Post}
    (hQ : Q (.ms false 1 o off (Lib.compact l).length cap) (H.set o (.row (A ++ (padS l).map D.str ++ B))) T) : Snd P f [.ms false 1 o off l.length cap] H T Q :=
  strs_snd ef (rv := fun blk rc => .slice (some ⟨blk, off, none⟩) (Lib.compact l).length rc) (fun blk rc w h1 h2 h3 => by
      have := Any.slices_Compact_string L blk off rc l w h1 (by omega) h3
      rw [hf] at this
      refine this.mono ?_
      rintro e w' ⟨rfl, q, rfl⟩
      have hg : ∀ W : World, grow W #[] = W := fun W => by cases W; simp [grow]
      exact ⟨rfl, q, #[], by rw [hg]; rfl⟩)
    (by simp [padS]; omega) (fun s hs => by
      unfold padS at hs
      rcases List.mem_append.1 hs with h | h
      · exact .inl (hm s h)
      · exact .inr (List.eq_of_mem_replicate h))
    (fun c rc h1 h2 h3 h4 => .ms _ _ _ _ _ _ rc h1 (by omega) h3 h4) ho hA hQ
end GP
namespace GP
open Go.Lib
theorem cmU_sub (d : Array Sb) : ∀ m, ∀ x ∈ compactUpTo d m, ∃ j < m, x = d[j]!
  | 0, x, h => by simp [compactUpTo] at h
  | m + 1, x, h => by
    rw [compactUpTo_succ, List.mem_append] at h
    rcases h with h | h
    · obtain ⟨j, h1, h2⟩ := cmU_sub d m x h
      exact ⟨j, by omega, h2⟩
    · split at h
      · rw [List.mem_singleton] at h; exact ⟨m, by omega, h⟩
      · cases h
theorem cmU_mem (d : Array Sb) : ∀ m j, j < m → d[j]! ∈ compactUpTo d m
  | 0, j, h => by omega
  | m + 1, j, h => by
    rw [compactUpTo_succ, List.mem_append]
    rcases Nat.lt_or_ge j m with h1 | h1
    · exact .inl (cmU_mem d m j h1)
    · have : j = m := by omega
      subst this
      by_cases hk : keeps d j = true
      · rw [if_pos hk]; simp
      · have hk' : j ≠ 0 ∧ d[j]! = d[j - 1]! := by
          unfold keeps at hk
          simp only [decide_eq_true_eq, not_or, Classical.not_not] at hk
          exact hk
        rw [hk'.2]
        exact .inl (cmU_mem d j (j - 1) (by omega))
theorem cm_mem (l : List Sb) (x : Sb) : x ∈ compact l ↔ x ∈ l := by
  unfold compact
  constructor
  · intro h
    obtain ⟨j, h1, rfl⟩ := cmU_sub _ _ x h
    rw [getElem!_pos l.toArray j (by simpa using h1)]
    simp
  · intro h
    obtain ⟨j, hj, rfl⟩ := List.getElem_of_mem h
    have := cmU_mem l.toArray l.length j hj
    rw [getElem!_pos l.toArray j (by simpa using hj)] at this
    simpa using this
theorem cm_rise {l : List Sb} (h : l.Pairwise (· ≤ ·)) : (compact l).Pairwise (· < ·) := by
  have key : ∀ m, m ≤ l.length → (compactUpTo l.toArray m).Pairwise (· < ·) := by
    intro m
    induction m with
    | zero => intro _; simp [compactUpTo]
    | succ m ih =>
      intro hm
      rw [compactUpTo_succ]
      split
      · rename_i hk
        refine List.pairwise_append.2 ⟨ih (by omega), by simp, fun a ha b hb => ?_⟩
        rw [List.mem_singleton] at hb; subst hb
        obtain ⟨j, hj, rfl⟩ := cmU_sub _ _ a ha
        have e1 : l.toArray[m]! = l[m] := by rw [getElem!_pos l.toArray m (by simp; omega)]; simp
        have e2 : ∀ i (hi : i < l.length), l.toArray[i]! = l[i] := fun i hi => by rw [getElem!_pos l.toArray i (by simpa using hi)]; simp
        have h1 : l.toArray[m]! ≠ l.toArray[m - 1]! := by
          unfold keeps at hk
          simp only [decide_eq_true_eq] at hk
          rcases hk with hk | hk
          · omega
          · exact hk
        rw [e1, e2 j (by omega)]
        rw [e1, e2 (m - 1) (by omega)] at h1
        rw [List.pairwise_iff_getElem] at h
        have h2 := h (m - 1) m (by omega) (by omega) (by omega)
        have h3 : l[j]'(by omega) ≤ l[m - 1]'(by omega) := by
          rcases Nat.lt_or_ge j (m - 1) with h4 | h4
          · exact h j (m - 1) (by omega) (by omega) h4
          · have : j = m - 1 := by omega
            subst this; exact List.le_refl _
        have h4 : l[m - 1]'(by omega) < l[m] := by
          rcases Classical.em (l[m - 1]'(by omega) < l[m]) with h5 | h5
          · exact h5
          · exact absurd (List.le_antisymm (List.not_lt.1 h5) h2) h1
        exact List.lt_of_le_of_lt h3 h4
      · simpa using ih (by omega)
  exact key l.length (Nat.le_refl _)
theorem sort_le (l : List Sb) : (sortS l).Pairwise (· ≤ ·) := by
  have := List.pairwise_mergeSort (le := fun x y : Sb => decide (x ≤ y)) (fun a b c h1 h2 => by simp only [decide_eq_true_eq] at *; exact List.le_trans h1 h2) (fun a b => by simp only [Bool.or_eq_true, decide_eq_true_eq]; exact List.le_total a b) l
  unfold sortS
  exact this.imp fun h => by simpa using h
def namesS (l : List Sb) : List Sb := compact (sortS l)
theorem names_mem (l : List Sb) (x : Sb) : x ∈ namesS l ↔ x ∈ l := by rw [namesS, cm_mem]; exact (List.mergeSort_perm l _).mem_iff
theorem names_rise (l : List Sb) : (namesS l).Pairwise (· < ·) := cm_rise (sort_le l)
theorem names_nodup (l : List Sb) : (namesS l).Nodup := (names_rise l).imp fun {a b} h => by rintro rfl; exact List.lt_irrefl _ h
theorem names_len {l m : List Sb} (hn : m.Nodup) (h : ∀ x, x ∈ m ↔ x ∈ l) : (namesS l).length = m.length :=
  Nat.le_antisymm (nodup_len (names_nodup l) fun x hx => (h x).2 ((names_mem l x).1 hx)) (nodup_len hn fun x hx => (names_mem l x).2 ((h x).1 hx))
def once (out : List Sb) (l : List Sb) : List Sb := l.foldl (fun out x => if x ∈ out then out else out ++ [x]) out
theorem once_spec : ∀ (l out : List Sb), out.Nodup → (once out l).Nodup ∧ ∀ x, x ∈ once out l ↔ x ∈ out ∨ x ∈ l
  | [], out, h => ⟨h, by simp [once]⟩
  | y :: l, out, h => by
    simp only [once, List.foldl_cons]
    by_cases hy : y ∈ out
    · rw [if_pos hy]
      obtain ⟨h1, h2⟩ := once_spec l out h
      refine ⟨h1, fun x => (h2 x).trans ?_⟩
      constructor
      · rintro (h | h) <;> simp [h]
      · rintro (h | h)
        · exact .inl h
        · rcases List.mem_cons.1 h with rfl | h
          · exact .inl hy
          · exact .inr h
    · rw [if_neg hy]
      obtain ⟨h1, h2⟩ := once_spec l (out ++ [y]) (List.nodup_append.2 ⟨h, by simp, fun a ha b hb e => by rw [List.mem_singleton] at hb; subst hb; subst e; exact hy ha⟩)
      refine ⟨h1, fun x => (h2 x).trans ?_⟩
      simp [or_assoc]
end GP
namespace GP
open Go
open Rd O
set_option maxRecDepth 100000
variable {P : Program} [HasG P]
@[go_sem high] theorem iab_nat (sz : Nat) (b : Bool) (xs : List D) (k : IntKind) (i : Nat) : ia sz (sliceD b xs) (.int k (i : Int)) = iaE sz xs[i]? := by
  rw [ia_sliceD, if_pos (by omega)]; simp
@[go_sem high] theorem iab_nat' (sz : Nat) (t : Option Nat) (xs : List D) (k : IntKind) (i : Nat) : ia sz (.sl t xs) (.int k (i : Int)) = iaE sz xs[i]? := by
  rw [ia_sl, if_pos (by omega)]; simp
def isLs (p : D → Prop) (d : D) : Prop := ∃ n l, d = sliceD n l ∧ l.length ≤ 2 ^ 47 ∧ ∀ x ∈ l, p x
theorem eraseL_id {l : List D} (h : ∀ x ∈ l, x.erase = x) : D.eraseL l = l := by
  rw [eraseL_map]
  exact (List.map_congr_left h).trans (List.map_id'' (fun _ => rfl) l)
theorem isLs_erase {p : D → Prop} (hp : ∀ x, p x → x.erase = x) {d : D} (h : isLs p d) : d.erase = d := by
  obtain ⟨n, l, rfl, _, hx⟩ := h
  rw [erase_sliceD, eraseL_id fun x hl => hp x (hx x hl)]
theorem wrapIY (a : Int) : IntKind.i64.wrap a = if a % 2 ^ 64 ≥ 2 ^ 63 then a % 2 ^ 64 - 2 ^ 64 else a % 2 ^ 64 := by simp [IntKind.wrap, IntKind.bits, IntKind.signed]
theorem wrap_inY {a : Int} (h1 : -(2 ^ 63) ≤ a) (h2 : a < 2 ^ 63) : IntKind.i64.wrap a = a := by rw [wrapIY]; split <;> omega
theorem wrap_natY (n : Nat) (h : n ≤ 2 ^ 62) : IntKind.i64.wrap ((n : Int) + 1) = ((n + 1 : Nat) : Int) := by
  rw [wrap_inY (by omega) (by omega)]; rfl
structure El (ag : Bool) (sz : Nat) (x : D) : Prop where
  erase : x.erase = x
  len : x.cells.length = sz
  ld : ld ag sz (some x.cells) = some x
theorem El.agg {sz : Nat} {x : D} (h1 : x.erase = x) (h2 : x.cells.length = sz) (h3 : D.agg x.cells = x) : El true sz x :=
  ⟨h1, h2, by simp only [GP.ld, if_true]; rw [if_pos (by omega), List.take_of_length_le (by omega), h3]⟩
def isT : Option D → Bool
  | some (.bool b) => b
  | _ => false
def idxP (p : D → Bool) (l : List D) : Int := match l.findIdx? p with
  | some i => i
  | none => -1
def idxC (ag : Bool) (sz : Nat) : C :=
  (.seq (.reg [⟨(some 4), none, .mv (k (.int .i64 0))⟩])
  (.seq (.seq (.reg [⟨(some 6), none, .mv (t 0)⟩, ⟨(some 7), none, .len (t 6)⟩, ⟨(some 8), none, .mv (k (.int .i64 0))⟩])
  (.block 0
  (.loop
  (.seq (.reg [⟨(some 9), none, .bin .lss (t 8) (t 7)⟩])
  (.seq (.cond (t 9)
  .skip
  (.exit 0))
  (.seq (.block 1
  (.seq (.reg [⟨(some 10), none, .mv (t 8)⟩, ⟨(some 5), none, .mv (t 10)⟩])
  (.seq (.reg [⟨(some 11), none, .mv (t 1)⟩, ⟨(some 12), none, .mv (t 0)⟩, ⟨(some 13), none, .mv (t 5)⟩, ⟨(some 14), none, .iaddr sz (t 12) (t 13)⟩, ⟨(some 15), none, .load ag sz (t 14)⟩, ⟨(some 16), none, .pcall (t 11) [(t 15)]⟩])
  (.cond (t 16)
  (.seq (.reg [⟨(some 17), none, .mv (t 5)⟩, ⟨(some 4), none, .mv (t 17)⟩])
  .ret)
  .skip))))
  (.reg [⟨(some 18), none, .bin .add (t 8) (k (.int .i64 1))⟩, ⟨(some 8), none, .mv (t 18)⟩])))))))
  (.seq (.reg [⟨(some 4), none, .mv (k (.int .i64 (-1)))⟩])
  .ret)))
open Classical in
noncomputable def φidx (f : FuncId) (φf : Hp → List D → Option D) (good : D → Prop) (H : Hp) : List D → Option D
  | [l, .fn g [] cap] => if g = f ∧ isLs good l ∧ D.eraseL cap = cap ∧ ∀ x ∈ elems l, ∃ b, φf H (x :: cap) = some (.bool b) then some (.int .i64 (idxP (fun x => isT (φf H (x :: cap))) (elems l))) else none
  | _ => none
def Mo (φf : Hp → List D → Option D) : Prop := ∀ H H' a r, Hle H H' → φf H a = some r → φf H' a = some r
theorem Mo.const (φ : List D → Option D) : Mo (fun _ => φ) := fun _ _ _ _ _ h => h
theorem OkAt.lift {f : FuncId} {φ : List D → Option D} (h : OkAt P f φ) : OkAtH P f (fun _ => φ) := fun H args r hr args' he T Q hQ => h args r hr args' he H T Q hQ
theorem idxP_congr {p q : D → Bool} {l : List D} (h : ∀ x ∈ l, p x = q x) : idxP p l = idxP q l := by
  unfold idxP
  have : l.findIdx? p = l.findIdx? q := by
    induction l with
    | nil => rfl
    | cons a l ih =>
      simp only [List.findIdx?_cons, h a (by simp), ih (fun x hx => h x (by simp [hx]))]
  rw [this]
theorem φidx_mono {f : FuncId} {φf : Hp → List D → Option D} (hm : Mo φf) (good : D → Prop) : Mo (φidx f φf good) := by
  intro H H' a r hl h
  unfold φidx at h ⊢
  split at h
  · rename_i l g cap
    split at h
    · rename_i hc
      obtain ⟨h1, h2, h3, h4⟩ := hc
      have h4' : ∀ x ∈ elems l, ∃ b, φf H' (x :: cap) = some (.bool b) := fun x hx => by
        obtain ⟨b, hb⟩ := h4 x hx
        exact ⟨b, hm _ _ _ _ hl hb⟩
      rw [if_pos ⟨h1, h2, h3, h4'⟩, ← h]
      congr 2
      refine idxP_congr fun x hx => ?_
      obtain ⟨b, hb⟩ := h4 x hx
      rw [hb, hm _ _ _ _ hl hb]
    · cases h
  · cases h
theorem findIdx_at {p : D → Bool} : ∀ {l : List D} {i : Nat} {x : D}, l[i]? = some x → p x = true → (∀ (j : Nat) y, j < i → l[j]? = some y → p y = false) → l.findIdx? p = some i
  | a :: l, 0, x, h, hp, _ => by simp at h; subst h; simp [List.findIdx?_cons, hp]
  | a :: l, i + 1, x, h, hp, hn => by
    have h0 := hn 0 a (by omega) rfl
    have := findIdx_at (l := l) (i := i) (x := x) (by simpa using h) hp (fun j y hj hy => hn (j + 1) y (by omega) (by simpa using hy))
    simp [List.findIdx?_cons, h0, this]
theorem findIdx_no {p : D → Bool} : ∀ {l : List D}, (∀ (j : Nat) y, l[j]? = some y → p y = false) → l.findIdx? p = none
  | [], _ => rfl
  | a :: l, h => by
    have h0 := h 0 a rfl
    have := findIdx_no (l := l) (fun j y hy => h (j + 1) y (by simpa using hy))
    simp [List.findIdx?_cons, h0, this]
theorem okIdx {ag : Bool} {sz : Nat} {N : FuncId} (hf : Fn P N 19 [.inl 4] (idxC ag sz)) {f : FuncId} {φf : Hp → List D → Option D} (hφ : OkAtH P f φf) (hm : Mo φf) {good : D → Prop} (hg : ∀ x, good x → El ag sz x) : OkAtH P N (φidx f φf good) := by
  have M : MonoH [(f, φf)] := .cons hm .nil
  refine okH_of (l := []) (m := [(f, φf)]) .nil (.cons hφ .nil) hf fun H args r h => ?_
  unfold φidx at h
  split at h
  · rename_i l g cap
    split at h
    · rename_i hc
      obtain ⟨rfl, ⟨n, xs, rfl, hl, hx⟩, h3, h4⟩ := hc
      rw [elems_sliceD] at h h4
      injection h with h; subst h
      refine ⟨by simp, by simp [D.cl], fun T => ?_⟩
      simp +contextual (maxSteps := 10000000) only [idxC, go_sem, W_draw]
      refine W_for (fun i s => s.t 0 = sliceD n xs ∧ s.t 1 = .fn g [] cap ∧ s.t 6 = sliceD n xs ∧ s.t 7 = .int .i64 xs.length ∧ s.t 8 = .int .i64 i ∧ s.H = H ∧ s.T = T ∧ i ≤ xs.length ∧ ∀ (j : Nat) x, j < i → xs[j]? = some x → isT (φf H (x :: cap)) = false) xs.length ⟨0, by simp [upd, argT]⟩ (fun i s h => h.2.2.2.2.2.2.2.1) ?_ (XM_mono _ _)
      rintro i ⟨t, H', T'⟩ ⟨h0, h1, h6, h7, h8, rfl, rfl, hi, hc⟩
      simp only at h0 h1 h6 h7 h8
      by_cases ha : i < xs.length
      · have d1 : decide ((i : Int) < xs.length) = true := by simpa using ha
        have e : xs[i]? = some xs[i] := by simp [ha]
        have hxi := hx _ (List.getElem_mem ha)
        obtain ⟨b, hb⟩ := h4 _ (List.getElem_mem ha)
        have E := hg _ hxi
        generalize xs[i] = x at *
        have hle := E.len
        have hld := E.ld
        have her := E.erase
        cases b with
        | true =>
          have hI : idxP (fun x => isT (φf H' (x :: cap))) xs = i := by
            unfold idxP
            rw [findIdx_at e (by rw [hb]; rfl) hc]
          simp +contextual (maxSteps := 10000000) only [h0, h1, h6, h7, h8, d1, e, hle, hld, her, h3, hb, hI, wrap_natY i (by omega), pcallH M, lookH_cons, lookH_nil, orK_n, go_sem, W_draw]
        | false =>
          have nx : ∀ (j : Nat) x, j < i + 1 → xs[j]? = some x → isT (φf H' (x :: cap)) = false := fun j y hj hy => by
            by_cases hji : j = i
            · subst hji; rw [e] at hy; injection hy with hy; subst hy; rw [hb]; rfl
            · exact hc j y (by omega) hy
          simp +contextual (maxSteps := 10000000) only [h0, h1, h6, h7, h8, d1, e, hle, hld, her, h3, hb, wrap_natY i (by omega), pcallH M, lookH_cons, lookH_nil, orK_n, go_sem, W_draw]
          exact ⟨by omega, nx⟩
      · have d1 : decide ((i : Int) < xs.length) = false := by simpa using ha
        have hI : idxP (fun x => isT (φf H' (x :: cap))) xs = -1 := by
          unfold idxP
          rw [findIdx_no (fun j y hy => hc j y (by
            rcases Nat.lt_or_ge j i with h' | h'
            · exact h'
            · rw [List.getElem?_eq_none (by omega)] at hy; cases hy) hy)]
        simp +contextual (maxSteps := 10000000) only [h0, h1, h6, h7, h8, d1, hI, go_sem, W_draw]
    · cases h
  · cases h
def cfC (g : FuncId) : C :=
  (.seq (.reg [⟨(some 4), none, .mv (k (.bool false))⟩])
  (.seq (.reg [⟨(some 5), none, .mv (t 0)⟩, ⟨(some 6), none, .mv (t 1)⟩, ⟨(some 7), none, .pcall (k (.fn g [] [])) [(t 5), (t 6)]⟩, ⟨(some 8), none, .bin .geq (t 7) (k (.int .i64 0))⟩, ⟨(some 4), none, .mv (t 8)⟩])
  .ret))
open Classical in
noncomputable def φcf (f : FuncId) (φf : Hp → List D → Option D) (good : D → Prop) (H : Hp) : List D → Option D
  | [l, .fn g [] cap] => if g = f ∧ isLs good l ∧ D.eraseL cap = cap ∧ ∀ x ∈ elems l, ∃ b, φf H (x :: cap) = some (.bool b) then some (.bool ((elems l).any (fun x => isT (φf H (x :: cap))))) else none
  | _ => none
theorem idxP_any (p : D → Bool) (l : List D) : decide ((0 : Int) ≤ idxP p l) = l.any p := by
  unfold idxP
  cases h : l.findIdx? p with
  | some i =>
    have : l.any p = true := by
      rw [List.findIdx?_eq_some_iff_getElem] at h
      obtain ⟨h1, h2, _⟩ := h
      exact List.any_eq_true.2 ⟨_, List.getElem_mem h1, h2⟩
    rw [this]; simp
  | none =>
    have : l.any p = false := by
      rw [List.findIdx?_eq_none_iff] at h
      exact List.any_eq_false.2 fun x hx => by simp [h x hx]
    rw [this]; rfl
theorem any_congr' {p q : D → Bool} {l : List D} (h : ∀ x ∈ l, p x = q x) : l.any p = l.any q := by
  induction l with
  | nil => rfl
  | cons a l ih => simp only [List.any_cons, h a (by simp), ih (fun x hx => h x (by simp [hx]))]
theorem φcf_mono {f : FuncId} {φf : Hp → List D → Option D} (hm : Mo φf) (good : D → Prop) : Mo (φcf f φf good) := by
  intro H H' a r hl h
  unfold φcf at h ⊢
  split at h
  · rename_i l g cap
    split at h
    · rename_i hc
      obtain ⟨h1, h2, h3, h4⟩ := hc
      have h4' : ∀ x ∈ elems l, ∃ b, φf H' (x :: cap) = some (.bool b) := fun x hx => by
        obtain ⟨b, hb⟩ := h4 x hx
        exact ⟨b, hm _ _ _ _ hl hb⟩
      rw [if_pos ⟨h1, h2, h3, h4'⟩, ← h]
      congr 2
      refine any_congr' fun x hx => ?_
      obtain ⟨b, hb⟩ := h4 x hx
      rw [hb, hm _ _ _ _ hl hb]
    · cases h
  · cases h
theorem okCf {N M : FuncId} (hf : Fn P N 9 [.inl 4] (cfC M)) {f : FuncId} {φf : Hp → List D → Option D} {good : D → Prop} (hge : ∀ x, good x → x.erase = x) (hi : OkAtH P M (φidx f φf good)) (hm : Mo φf) : OkAtH P N (φcf f φf good) := by
  have MM : MonoH [(M, φidx f φf good)] := .cons (φidx_mono hm good) .nil
  refine okH_of (l := []) (m := [(M, φidx f φf good)]) .nil (.cons hi .nil) hf fun H args r h => ?_
  unfold φcf at h
  split at h
  · rename_i l g cap
    split at h
    · rename_i hc
      have p : φidx f φf good H [l, .fn g [] cap] = some (.int .i64 (idxP (fun x => isT (φf H (x :: cap))) (elems l))) := by
        simp only [φidx]; rw [if_pos hc]
      have a := idxP_any (fun x => isT (φf H (x :: cap))) (elems l)
      obtain ⟨rfl, h2, h3, h4⟩ := hc
      have el := isLs_erase hge h2
      injection h with h; subst h
      refine ⟨by simp, by simp [D.cl], fun T => ?_⟩
      simp +contextual (maxSteps := 10000000) only [cfC, el, h3, p, pcallH MM, lookH_cons, lookH_nil, orK_n, a, go_sem, W_draw]
    · cases h
  · cases h
end GP
namespace GP
open Go
open Rd O
set_option maxRecDepth 100000
variable {P : Program} [HasG P]
def isTx (x : D) : Prop := ∃ w, x = .str w ∧ w.length ≤ 2 ^ 47
theorem isTx_erase {x : D} (h : isTx x) : x.erase = x := by obtain ⟨w, rfl, _⟩ := h; rfl
theorem isTx_El {x : D} (h : isTx x) : El false 1 x := by obtain ⟨w, rfl, _⟩ := h; exact ⟨rfl, rfl, rfl⟩
theorem OkAtH.low {f : FuncId} {φ : List D → Option D} (h : OkAtH P f (fun _ => φ)) : OkAt P f φ := fun args r hr args' he H T Q hQ => h H args r hr args' he T Q hQ
end GP
namespace GP
open Go
def accT (sz : Nat) (T : Tk) (xs : List D) (d : D) (T' : Tk) : Prop := ExtT T T' ∧ ((xs = [] ∧ d = .nils) ∨ ∃ i, T.length ≤ i ∧ d = .sl (some i) xs ∧ T'[i]? = some (some (xs.length, sz)))
theorem accT.nil (sz : Nat) (T : Tk) {T' : Tk} (h : ExtT T T') : accT sz T [] .nils T' := ⟨h, .inl ⟨rfl, rfl⟩⟩
theorem accT.app {sz : Nat} {T T' : Tk} {xs : List D} {d : D} (h : accT sz T xs d T') (L : Tk) : accT sz T xs d (T' ++ L) := by
  obtain ⟨h1, h2⟩ := h
  refine ⟨h1.app L, ?_⟩
  rcases h2 with h2 | ⟨i, h2, h3, h4⟩
  · exact .inl h2
  · refine .inr ⟨i, h2, h3, ?_⟩
    have : i < T'.length := by
      rcases Nat.lt_or_ge i T'.length with h | h
      · exact h
      · rw [List.getElem?_eq_none h] at h4; cases h4
    rw [List.getElem?_append_left this]; exact h4
theorem accT.mk (sz : Nat) (T : Tk) {T' : Tk} (h : ExtT T T') (xs : List D) (L : Tk) : accT sz T xs (.sl (some T'.length) xs) (T' ++ some (xs.length, sz) :: L) := by
  obtain ⟨M, rfl⟩ := h
  refine ⟨⟨M ++ some (xs.length, sz) :: L, by simp⟩, .inr ⟨_, by simp, rfl, by simp⟩⟩
theorem accT.erase {sz : Nat} {T T' : Tk} {xs : List D} {d : D} (h : accT sz T xs d T') (he : D.eraseL xs = xs) (h0 : xs ≠ []) : d.erase = .sl none xs := by
  rcases h.2 with ⟨rfl, rfl⟩ | ⟨i, _, rfl, _⟩
  · exact (h0 rfl).elim
  · simp [D.erase, he]
theorem app_accT {sz bytes : Nat} {K : D → S → Prop} {t : Nat → D} {H : Hp} {T T' : Tk} {xs : List D} {d : D} (ys : List D) (h : accT sz T xs d T') (hy : ys.all (fit sz) = true) (hxs : xs.all (fit sz) = true) (hb : (xs.length + ys.length) * bytes ≤ 2 ^ 47) (hb2 : xs.length + ys.length < 2 ^ 62)
    (k : ∀ d2 T2, accT sz T (xs ++ ys) d2 T2 → K d2 ⟨t, H, T2⟩) : appK sz bytes K ⟨t, H, T'⟩ d (some ys) := by
  obtain ⟨h1, h2⟩ := h
  rcases h2 with ⟨rfl, rfl⟩ | ⟨i, hi, rfl, hT⟩
  · simp only [appK]
    refine ⟨hy, ?_⟩
    simp only [List.nil_append, List.length_nil, Nat.zero_add] at k hb hb2
    split
    · rename_i e; subst e; exact k _ _ (.nil sz T h1)
    · exact ⟨hb, hb2, k _ _ (.mk sz T h1 ys [])⟩
  · simp only [appK]
    refine ⟨hy, hT, hb, hb2, hxs, k _ _ ⟨?_, .inr ⟨i, hi, rfl, ?_⟩⟩⟩
    · obtain ⟨L, rfl⟩ := h1
      exact ⟨L.set (i - T.length) (some (xs.length + ys.length, sz)), by rw [List.set_append_right _ _ hi]⟩
    · have : i < T'.length := by
        rcases Nat.lt_or_ge i T'.length with h | h
        · exact h
        · rw [List.getElem?_eq_none h] at hT; cases hT
      rw [List.getElem?_set_self this]; simp
end GP
namespace GP
open Go
theorem tf (b : Bool) : b = true ∨ b = false := by cases b <;> simp
theorem flatD_cons (x : D) (xs : List D) : flatD (x :: xs) = x.cells ++ flatD xs := by simp [flatD]
def isAg (sz : Nat) (xs : List D) : Prop := ∀ x ∈ xs, ∃ l, x = .agg l ∧ l.length = sz
theorem isAg.len {sz : Nat} {xs : List D} (h : isAg sz xs) : ∀ x ∈ xs, x.cells.length = sz := fun x hx => by
  obtain ⟨l, rfl, hl⟩ := h x hx; exact hl
theorem isAg.fit {sz : Nat} {xs : List D} (h : isAg sz xs) : xs.all (fit sz) = true := List.all_eq_true.2 fun x hx => by
  obtain ⟨l, rfl, hl⟩ := h x hx; simp [GP.fit, D.okc, D.cells, hl]
theorem isAg.sub {sz : Nat} {xs ys : List D} (h : isAg sz xs) (k : ∀ y ∈ ys, y ∈ xs) : isAg sz ys := fun y hy => h y (k y hy)
theorem isAg.set {sz : Nat} {xs : List D} (h : isAg sz xs) {x : D} (hx : ∃ l, x = .agg l ∧ l.length = sz) (i : Nat) : isAg sz (xs.set i x) := fun y hy => by
  rcases List.mem_or_eq_of_mem_set hy with h' | rfl
  · exact h y h'
  · exact hx
theorem chunk_flat {sz : Nat} : ∀ (xs : List D) (rest : List D), isAg sz xs → chunk true sz xs.length (flatD xs ++ rest) = xs
  | [], _, _ => rfl
  | x :: xs, rest, h => by
    obtain ⟨l, rfl, hl⟩ := h x (by simp)
    simp only [List.length_cons, chunk, if_true, flatD_cons, D.cells, List.append_assoc]
    rw [List.take_left' hl, List.drop_left' hl, chunk_flat xs rest (h.sub fun y hy => by simp [hy])]
end GP
namespace GP
open Go
variable {P : Program} [HasG P]
def XU (P : Program) [HasG P] (u : List FuncId) (l : Fs) (m : FsH) (e : FsE) : Pred := fun f a H T Q => if u.contains f = true then Snd P f a H T Q else XE l m e f a H T Q
theorem XU.X {u : List FuncId} {l : Fs} {m : FsH} {e : FsE} (k : Ok P l) (k' : OkH P m) (k'' : OkE P e) : ∀ f args H T Q Q', (∀ r H T, Q r H T → Q' r H T) → XU P u l m e f args H T Q → Snd P f args H T Q' := by
  intro f args H T Q Q' hQ h
  unfold XU at h
  split at h
  · exact Snd.mono _ _ _ _ _ _ hQ h
  · exact XE.X k k' k'' f args H T Q Q' hQ h
def callQ (K : D → S → Prop) (t : Nat → D) : Post := fun r H T => K r ⟨t, H, T⟩
theorem callK_fn (X : Pred) (args : List D) (K : D → S → Prop) (s : S) (f : FuncId) (first cap : List D) : callK X args K s (.fn f first cap) = X f (first ++ args ++ cap) s.H s.T (callQ K s.t) := id rfl
theorem callQ_eq (K : D → S → Prop) (t : Nat → D) (r : D) (H : Hp) (T : Tk) : callQ K t r H T = K r ⟨t, H, T⟩ := id rfl
def orL (Q : Post) (H : Hp) (T : Tk) : Option D → Prop
  | some r => Q r H T
  | none => False
theorem XL_eq (l : Fs) (f : FuncId) (args : List D) (H : Hp) (T : Tk) (Q : Post) : XL l f args H T Q = orL Q H T (look l f (D.eraseL args)) := by
  unfold XL orL
  cases look l f (D.eraseL args) <;> rfl
theorem orL_s (Q : Post) (H : Hp) (T : Tk) (r : D) : orL Q H T (some r) = Q r H T := id rfl
attribute [go_sem] callK_fn callQ_eq XL_eq orL_s XE_eq orX_s orX_n orX_e orE_s lookE_nil lookE_cons inE_nil inE_cons lookH_nil lookH_cons orK_s orK_n
theorem Ext.set {H B : Hp} (h : Ext H B) {o : Nat} (ho : H.length ≤ o) (x : Ob) : Ext H (B.set o x) := by
  obtain ⟨L, rfl⟩ := h
  exact ⟨L.set (o - H.length) x, by rw [List.set_append_right _ _ ho]⟩
@[go_sem] theorem fld_f (off n : Nat) (cs : List D) : fld false off n (.agg cs) = cs[off]? := id rfl
@[go_sem] theorem fld_t (off n : Nat) (cs : List D) : fld true off n (.agg cs) = if off + n ≤ cs.length then some (.agg ((cs.take (off + n)).drop off)) else none := id rfl
end GP
namespace GP
open Go
mutual
def D.ren (σ θ : Nat → Nat) : D → D
  | .sl t xs => .sl (t.map θ) (D.renL σ θ xs)
  | .el cs => .el (D.renL σ θ cs)
  | .agg cs => .agg (D.renL σ θ cs)
  | .tup cs => .tup (D.renL σ θ cs)
  | .fn f a b => .fn f (D.renL σ θ a) (D.renL σ θ b)
  | .ifc t d => .ifc t (D.ren σ θ d)
  | .ptr o off => .ptr (σ o) off
  | .mp o => .mp (σ o)
  | .ms ag z o off n cap => .ms ag z (σ o) off n cap
  | d => d
def D.renL (σ θ : Nat → Nat) : List D → List D
  | [] => []
  | d :: ds => D.ren σ θ d :: D.renL σ θ ds
end
section
variable {σ θ : Nat → Nat}
end
def RenOb (σ θ : Nat → Nat) (x y : Ob) : Prop :=
  (∃ cs cs', x = .row cs ∧ y = .row cs' ∧ cs'.length = cs.length ∧ (∀ d ∈ cs, d.one = true) ∧ ∀ i (h : i < cs.length) (h' : i < cs'.length), Crs cs'[i] ((cs[i]).ren σ θ)) ∨ (x = .dead) ∨ (x = .hole ∧ y = .hole) ∨ ∃ es clk, x = .map es clk ∧ y = .map es clk
structure RenTo (H : Hp) (T : Tk) (r2 : D) (H2 : Hp) (T2 : Tk) (r0 : D) (H1 : Hp) (T1 : Tk) (σ θ : Nat → Nat) : Prop where
  σ0 : ∀ o, o < H.length → σ o = o
  θ0 : ∀ τ, τ < T.length → θ τ = τ
  res : Crs r2 (r0.ren σ θ)
  ob : ∀ (o : Nat) x, H1[o]? = some x → ∃ y, H2[σ o]? = some y ∧ ((y = x ∧ H[o]? = some x) ∨ RenOb σ θ x y)
  σi : ∀ o o', o < H1.length → o' < H1.length → σ o = σ o' → o = o'
  θi : ∀ τ τ', τ < T1.length → τ' < T1.length → θ τ = θ τ' → τ = τ'
  tok : ∀ τ, τ < T1.length → T2[θ τ]? = T1[τ]?
  hl : H.length ≤ H1.length
  tl : T.length ≤ T1.length
section
variable {P : Program}
end
variable {P : Program} [HasG P]
abbrev FsG := List (FuncId × (Hp → Tk → List D → Option (D × Hp × Tk)))
def lookG : FsG → Hp → Tk → FuncId → List D → Option (D × Hp × Tk)
  | [], _, _, _, _ => none
  | (g, φ) :: l, H, T, f, a => if f = g then φ H T a else lookG l H T f a
def inG : FsG → FuncId → Bool
  | [], _ => false
  | (g, _) :: l, f => decide (f = g) || inG l f
@[go_sem] theorem lookG_nil (H : Hp) (T : Tk) (f : FuncId) (a : List D) : lookG [] H T f a = none := id rfl
@[go_sem] theorem lookG_cons (g : FuncId) (φ : Hp → Tk → List D → Option (D × Hp × Tk)) (l : FsG) (H : Hp) (T : Tk) (f : FuncId) (a : List D) : lookG ((g, φ) :: l) H T f a = if f = g then φ H T a else lookG l H T f a := id rfl
@[go_sem] theorem inG_nil (f : FuncId) : inG [] f = false := id rfl
@[go_sem] theorem inG_cons (g : FuncId) (φ : Hp → Tk → List D → Option (D × Hp × Tk)) (l : FsG) (f : FuncId) : inG ((g, φ) :: l) f = (decide (f = g) || inG l f) := id rfl
theorem lookG_in : ∀ {l : FsG} {H : Hp} {T : Tk} {f : FuncId} {a : List D}, inG l f = false → lookG l H T f a = none
  | [], _, _, _, _, _ => rfl
  | (g, φ) :: l, H, T, f, a, h => by
    simp only [inG, Bool.or_eq_false_iff, decide_eq_false_iff_not] at h
    simp only [lookG]
    rw [if_neg h.1]; exact lookG_in h.2
def OkAtG (P : Program) [HasG P] (f : FuncId) (φ : Hp → Tk → List D → Option (D × Hp × Tk)) : Prop := ∀ H T args r H' T', φ H T args = some (r, H', T') → ∀ args', D.eraseL args' = args → ∀ (Q : Post), Q r H' T' → Snd P f args' H T Q
def OkG (P : Program) [HasG P] (m : FsG) : Prop := ∀ H T f args r H' T', lookG m H T f args = some (r, H', T') → ∀ args', D.eraseL args' = args → ∀ (Q : Post), Q r H' T' → Snd P f args' H T Q
theorem OkG.nil : OkG P [] := fun _ _ _ _ _ _ _ h => by simp [lookG] at h
theorem OkG.cons {f : FuncId} {φ : Hp → Tk → List D → Option (D × Hp × Tk)} {m : FsG} (h : OkAtG P f φ) (k : OkG P m) : OkG P ((f, φ) :: m) := by
  intro H T g args r H' T' hr
  simp only [lookG] at hr
  split at hr
  · rename_i e; subst e; exact h H T args r H' T' hr
  · exact k H T g args r H' T' hr
def inU : List FuncId → FuncId → Bool
  | [], _ => false
  | g :: l, f => decide (f = g) || inU l f
@[go_sem] theorem inU_nil (f : FuncId) : inU [] f = false := id rfl
@[go_sem] theorem inU_cons (g : FuncId) (l : List FuncId) (f : FuncId) : inU (g :: l) f = (decide (f = g) || inU l f) := id rfl
def XG (P : Program) [HasG P] (u : List FuncId) (l : Fs) (m : FsH) (e : FsE) (g : FsG) : Pred := fun f a H T Q =>
  if inU u f = true then Snd P f a H T Q else match look l f (D.eraseL a) with
  | some r => Q r H T
  | none => match lookH m H f (D.eraseL a) with
    | some r => Q r H T
    | none => match lookE e H f (D.eraseL a) with
      | some (r, H') => Q r H' T
      | none => match lookG g H T f (D.eraseL a) with
        | some (r, H', T') => Q r H' T'
        | none => False
theorem XG.X {u : List FuncId} {l : Fs} {m : FsH} {e : FsE} {g : FsG} (k : Ok P l) (k' : OkH P m) (k'' : OkE P e) (k3 : OkG P g) : ∀ f args H T Q Q', (∀ r H T, Q r H T → Q' r H T) → XG P u l m e g f args H T Q → Snd P f args H T Q' := by
  intro f args H T Q Q' hQ h
  unfold XG at h
  split at h
  · exact Snd.mono _ _ _ _ _ _ hQ h
  · split at h
    · rename_i r hr
      exact k f _ r hr args rfl H T Q' (hQ _ _ _ h)
    · split at h
      · rename_i r hr
        exact k' H f _ r hr args rfl T Q' (hQ _ _ _ h)
      · split at h
        · rename_i r H' hr
          exact k'' H f _ r H' hr args rfl T Q' (hQ _ _ _ h)
        · split at h
          · rename_i r H' T' hr
            exact k3 H T f _ r H' T' hr args rfl Q' (hQ _ _ _ h)
          · exact h.elim
theorem XG_mono (u : List FuncId) (l : Fs) (m : FsH) (e : FsE) (g : FsG) : Mono (XG P u l m e g) := by
  intro f args H T Q Q' hQ h
  unfold XG at h ⊢
  split at h
  · rename_i c; rw [if_pos c]; exact Snd.mono _ _ _ _ _ _ hQ h
  · rename_i c
    rw [if_neg c]
    split at h
    · exact hQ _ _ _ h
    · split at h
      · exact hQ _ _ _ h
      · split at h
        · exact hQ _ _ _ h
        · split at h
          · exact hQ _ _ _ h
          · exact h.elim
def orG (Q : Post) : Option (D × Hp × Tk) → Prop
  | some (r, H', T') => Q r H' T'
  | none => False
def orY (Q : Post) (H : Hp) (T : Tk) : Option D → Option D → Option (D × Hp) → Option (D × Hp × Tk) → Prop
  | some r, _, _, _ => Q r H T
  | none, some r, _, _ => Q r H T
  | none, none, some (r, H'), _ => Q r H' T
  | none, none, none, x => orG Q x
@[go_sem] theorem XG_eq (u : List FuncId) (l : Fs) (m : FsH) (e : FsE) (g : FsG) (f : FuncId) (args : List D) (H : Hp) (T : Tk) (Q : Post) : XG P u l m e g f args H T Q = if inU u f = true then Snd P f args H T Q else orY Q H T (look l f (D.eraseL args)) (lookH m H f (D.eraseL args)) (lookE e H f (D.eraseL args)) (lookG g H T f (D.eraseL args)) := by
  unfold XG
  congr 1
  cases look l f (D.eraseL args) with
  | some r => rfl
  | none =>
    cases lookH m H f (D.eraseL args) with
    | some r => rfl
    | none =>
      cases lookE e H f (D.eraseL args) with
      | some x => rfl
      | none =>
        cases lookG g H T f (D.eraseL args) with
        | some x => rfl
        | none => rfl
@[go_sem] theorem orY_s (Q : Post) (H : Hp) (T : Tk) (r : D) (x : Option D) (y : Option (D × Hp)) (z : Option (D × Hp × Tk)) : orY Q H T (some r) x y z = Q r H T := id rfl
@[go_sem] theorem orY_n (Q : Post) (H : Hp) (T : Tk) (r : D) (y : Option (D × Hp)) (z : Option (D × Hp × Tk)) : orY Q H T none (some r) y z = Q r H T := id rfl
@[go_sem] theorem orY_e (Q : Post) (H : Hp) (T : Tk) (r : D) (H' : Hp) (z : Option (D × Hp × Tk)) : orY Q H T none none (some (r, H')) z = Q r H' T := id rfl
@[go_sem] theorem orY_g (Q : Post) (H : Hp) (T : Tk) (z : Option (D × Hp × Tk)) : orY Q H T none none none z = orG Q z := id rfl
@[go_sem] theorem orG_s (Q : Post) (r : D) (H' : Hp) (T' : Tk) : orG Q (some (r, H', T')) = Q r H' T' := id rfl
theorem pcallG {u : List FuncId} {l : Fs} {m : FsH} {e : FsE} {g : FsG} (hm : MonoH m) (args : List D) (K : D → S → Prop) (s : S) (f : FuncId) (first cap : List D) :
    pcallK (XG P u l m e g) args K s (.fn f first cap) = if (inU u f || inE e f || inG g f) = true then pcallN (XG P u l m e g) args K s (.fn f first cap) else orK K s (look l f (D.eraseL (first ++ args ++ cap))) (lookH m s.H f (D.eraseL (first ++ args ++ cap))) := by
  cases hu : inU u f with
  | true => rfl
  | false =>
    cases hg : inG g f with
    | true => simp only [Bool.false_or, Bool.or_true, if_true]; rfl
    | false =>
      have hx : ∀ a H T Q, XG P u l m e g f a H T Q = XE l m e f a H T Q := by
        intro a H T Q; unfold XG XE; rw [hu, lookG_in hg]; rfl
      cases he : inE e f with
      | true => rfl
      | false =>
        rw [if_neg (by simp)]
        have := pcallE (l := l) (e := e) hm args K s f first cap
        rw [he, if_neg (by simp)] at this
        rw [← this]
        simp only [pcallK, eq_iff_iff]
        unfold Pure
        simp only [hx]
end GP
namespace GP
open Go
set_option maxRecDepth 100000
variable {P : Program} [HasG P]
open Rd O
theorem isSl_m {d : D} (h : isSl d = true) : ∃ m, d = sliceD m (elems d) := by
  unfold isSl at h
  split at h
  · exact ⟨true, rfl⟩
  · exact ⟨false, rfl⟩
  · cases h
def catD (ls : List D) : List D := (ls.map elems).flatten
structure isCat (sz bytes : Nat) (ls : List D) : Prop where
  l : ls.length ≤ 2 ^ 40
  s : ∀ y ∈ ls, ∃ m xs, y = sliceD m xs
  a : isAg sz (catD ls)
  e : D.eraseL (catD ls) = catD ls
  c : D.clL 0 0 (catD ls) = true
  b : (catD ls).length * bytes ≤ 2 ^ 47
  n : (catD ls).length < 2 ^ 61
end GP
namespace GP
open Go Go.Proofs
set_option maxRecDepth 100000
variable [HasG Try.prog]
def edD (e : Ed) : D := .agg [.str e.1, .str e.2]
def edS (n : Bool) (l : List Ed) : D := sliceD n (l.map edD)
def txS (n : Bool) (l : List Sb) : D := sliceD n (l.map D.str)
theorem edL_erase (l : List Ed) : D.eraseL (l.map edD) = l.map edD := eraseL_id fun x hx => by
  obtain ⟨e, _, rfl⟩ := List.mem_map.1 hx; rfl
theorem txL_erase (l : List Sb) : D.eraseL (l.map D.str) = l.map D.str := eraseL_id fun x hx => by
  obtain ⟨e, _, rfl⟩ := List.mem_map.1 hx; rfl
@[go_sem] theorem edS_erase (n : Bool) (l : List Ed) : (edS n l).erase = edS n l := by unfold edS; rw [erase_sliceD, edL_erase]
@[go_sem] theorem txS_erase (n : Bool) (l : List Sb) : (txS n l).erase = txS n l := by unfold txS; rw [erase_sliceD, txL_erase]
@[go_sem] theorem edS_len (n : Bool) (l : List Ed) : lenD (edS n l) = some l.length := by
  unfold edS; rcases sliceD_cases n (l.map edD) with ⟨e, h⟩ | e <;> rw [e] <;> simp [lenD]
  have : l = [] := by simpa using h
  subst this; rfl
@[go_sem] theorem txS_len (n : Bool) (l : List Sb) : lenD (txS n l) = some l.length := by
  unfold txS; rcases sliceD_cases n (l.map D.str) with ⟨e, h⟩ | e <;> rw [e] <;> simp [lenD]
  have : l = [] := by simpa using h
  subst this; rfl
@[go_sem high] theorem edS_ia (n : Bool) (l : List Ed) (k : IntKind) (i : Nat) : ia 2 (edS n l) (.int k (i : Int)) = (l[i]?).map fun e => .el [.str e.1, .str e.2] := by
  unfold edS
  rw [iab_nat]
  simp only [List.getElem?_map]
  cases l[i]? <;> rfl
@[go_sem high] theorem txS_ia (n : Bool) (l : List Sb) (k : IntKind) (i : Nat) : ia 1 (txS n l) (.int k (i : Int)) = (l[i]?).map fun s => .el [.str s] := by
  unfold txS
  rw [iab_nat]
  simp only [List.getElem?_map]
  cases l[i]? <;> rfl
def nmB (s : Sb) : Bool := decide (0 < s.length) && decide (s.length ≤ 64)
def φ77 : List D → Option D
  | [.str s] => some (.bool (nmB s))
  | _ => none
theorem ok77 : OkAt Try.prog 77 φ77 := by
  refine ok_of (l := []) .nil fn77 fun args r h => ?_
  unfold φ77 at h
  split at h
  · rename_i s
    injection h with h; subst h
    refine ⟨by simp, by simp [D.cl], fun H T => ?_⟩
    unfold nmB
    rcases tf (decide ((0 : Int) < s.length)) with g | g
    · have g2 : decide (0 < s.length) = true := by simpa using g
      rcases tf (decide ((s.length : Int) ≤ 64)) with g3 | g3
      · have g4 : decide (s.length ≤ 64) = true := by simp only [decide_eq_true_eq] at g3 ⊢; omega
        simp +contextual (maxSteps := 10000000) only [c77, g, g2, g3, g4, go_sem, W_draw]
      · have g4 : decide (s.length ≤ 64) = false := by simp only [decide_eq_false_iff_not] at g3 ⊢; omega
        simp +contextual (maxSteps := 10000000) only [c77, g, g2, g3, g4, go_sem, W_draw]
    · have g2 : decide (0 < s.length) = false := by simpa using g
      simp +contextual (maxSteps := 10000000) only [c77, g, g2, go_sem, W_draw]
  · cases h
def φ109 : List D → Option D
  | [.str s] => some (.bool (!nmB s))
  | _ => none
theorem ok109 : OkAt Try.prog 109 φ109 := by
  refine ok_of (l := []) .nil fn109 fun args r h => ?_
  unfold φ109 at h
  split at h
  · rename_i s
    injection h with h; subst h
    refine ⟨by simp, by simp [D.cl], fun H T => ?_⟩
    unfold nmB
    rcases tf (decide ((s.length : Int) < 1)) with g | g
    · have g2 : decide (0 < s.length) = false := by simp only [decide_eq_true_eq, decide_eq_false_iff_not] at g ⊢; omega
      simp +contextual (maxSteps := 10000000) only [c109, g, g2, go_sem, W_draw]
    · have g2 : decide (0 < s.length) = true := by simp only [decide_eq_true_eq, decide_eq_false_iff_not] at g ⊢; omega
      rcases tf (decide ((64 : Int) < s.length)) with g3 | g3
      · have g4 : decide (s.length ≤ 64) = false := by simp only [decide_eq_true_eq, decide_eq_false_iff_not] at g3 ⊢; omega
        simp +contextual (maxSteps := 10000000) only [c109, g, g2, g3, g4, go_sem, W_draw]
      · have g4 : decide (s.length ≤ 64) = true := by simp only [decide_eq_true_eq, decide_eq_false_iff_not] at g3 ⊢; omega
        simp +contextual (maxSteps := 10000000) only [c109, g, g2, g3, g4, go_sem, W_draw]
  · cases h
theorem ok126 : OkAtH Try.prog 126 (φidx 109 (fun _ => φ109) isTx) := okIdx (ag := false) (sz := 1) fn126 ok109.lift (Mo.const _) fun _ => isTx_El
theorem ok108 : OkAtH Try.prog 108 (φcf 109 (fun _ => φ109) isTx) := okCf (M := 126) fn108 (fun _ => isTx_erase) ok126 (Mo.const _)
theorem cf109 (H : Hp) (l : List Sb) (hl : l.length ≤ 2 ^ 47) (h : ∀ s ∈ l, s.length ≤ 2 ^ 40) : φcf 109 (fun _ => φ109) isTx H [.sl none (l.map D.str), .fn 109 [] []] = some (.bool (l.any fun s => !nmB s)) := by
  have hc : (109 : Nat) = 109 ∧ isLs isTx (.sl none (l.map D.str)) ∧ D.eraseL [] = [] ∧ ∀ x ∈ elems (.sl none (l.map D.str)), ∃ b, φ109 [x] = some (.bool b) := by
    refine ⟨rfl, ⟨false, _, rfl, by simpa using hl, fun x hx => ?_⟩, rfl, fun x hx => ?_⟩
    · obtain ⟨s, hs, rfl⟩ := List.mem_map.1 hx
      exact ⟨s, rfl, by have := h s hs; omega⟩
    · have hx : x ∈ l.map D.str := hx
      obtain ⟨s, hs, rfl⟩ := List.mem_map.1 hx
      exact ⟨_, rfl⟩
  simp only [φcf]
  rw [if_pos hc]
  have e : elems (.sl none (l.map D.str)) = l.map D.str := rfl
  (rw [e, List.any_map]) <;> rfl
def namedB (l : List Sb) : Bool := l.all nmB
def strsD : List D → Option (List Sb)
  | [] => some []
  | .str s :: r => (strsD r).map (s :: ·)
  | _ => none
def φ68 : List D → Option D
  | [.sl none xs] => match strsD xs with
    | some l => if l.length ≤ 2 ^ 40 ∧ ∀ s ∈ l, s.length ≤ 2 ^ 40 then some (.bool (namedB l)) else none
    | none => none
  | _ => none
theorem strsD_of : ∀ {xs : List D} {l : List Sb}, strsD xs = some l → xs = l.map D.str
  | [], l, h => by simp [strsD] at h; subst h; rfl
  | .str s :: r, l, h => by
    simp only [strsD, Option.map_eq_some_iff] at h
    obtain ⟨l', h1, rfl⟩ := h
    rw [strsD_of h1]; rfl
  | .bool _ :: _, _, h | .int _ _ :: _, _, h | .nilp :: _, _, h | .ptr _ _ :: _, _, h | .el _ :: _, _, h | .nils :: _, _, h | .sl _ _ :: _, _, h | .ms _ _ _ _ _ _ :: _, _, h | .e0 :: _, _, h | .fn _ _ _ :: _, _, h | .nilf :: _, _, h | .mp _ :: _, _, h | .nilm :: _, _, h | .nili :: _, _, h | .ifc _ _ :: _, _, h | .agg _ :: _, _, h | .tup _ :: _, _, h | .top :: _, _, h => by simp [strsD] at h
theorem ok68 : OkAt Try.prog 68 φ68 := by
  have hM : MonoH [(108, φcf 109 (fun _ => φ109) isTx)] := .cons (φcf_mono (Mo.const _) _) .nil
  refine OkAtH.low (okH_of (l := []) (m := [(108, φcf 109 (fun _ => φ109) isTx)]) .nil (.cons ok108 .nil) fn68 fun H args r h => ?_)
  unfold φ68 at h
  split at h
  · rename_i xs
    split at h
    · rename_i l hl
      split at h
      · rename_i hc
        injection h with h; subst h
        have := strsD_of hl; subst this
        refine ⟨by simp, by simp [D.cl], fun T => ?_⟩
        have p := cf109 H l (by omega) hc.2
        have e : (!l.any fun s => !nmB s) = namedB l := by unfold namedB; rw [List.not_any_eq_all_not]; simp
        simp +contextual (maxSteps := 10000000) only [c68, pcallH hM, lookH_cons, lookH_nil, orK_n, txL_erase, p, e, go_sem, W_draw]
      · cases h
    · cases h
  · cases h
def φ56 : List D → Option D
  | [d, .str s] => match strsD (elems d) with
    | some l => if isSl d = true ∧ l.length ≤ 2 ^ 40 then some (.bool (l.contains s)) else none
    | none => none
  | _ => none
theorem elems_txS (n : Bool) (l : List Sb) : elems (txS n l) = l.map D.str := elems_sliceD _ _
theorem strsD_map : ∀ l : List Sb, strsD (l.map D.str) = some l
  | [] => rfl
  | s :: l => by simp only [List.map_cons, strsD, strsD_map l]; rfl
theorem isSl_txS (n : Bool) (l : List Sb) : isSl (txS n l) = true := by
  unfold txS; rcases sliceD_cases n (l.map D.str) with ⟨e, _⟩ | e <;> rw [e] <;> rfl
theorem p56 (n : Bool) (l : List Sb) (s : Sb) (h : l.length ≤ 2 ^ 40) : φ56 [txS n l, .str s] = some (.bool (l.contains s)) := by
  simp only [φ56, elems_txS, strsD_map]
  rw [if_pos ⟨isSl_txS n l, h⟩]
theorem ok56 : OkAt Try.prog 56 φ56 := by
  refine ok_of (l := []) .nil fn56 fun args r h => ?_
  unfold φ56 at h
  split at h
  · rename_i d s
    split at h
    · rename_i l hl
      split at h
      · rename_i hc
        injection h with h; subst h
        have e1 := strsD_of hl
        obtain ⟨n, hn⟩ := isSl_m hc.1
        rw [e1] at hn
        change d = txS n l at hn
        subst hn
        refine ⟨by simp, by simp [D.cl], fun H T => ?_⟩
        simp +contextual (maxSteps := 10000000) only [c56, go_sem, W_draw]
        refine W_for (fun i s' => s'.t 0 = txS n l ∧ s'.t 1 = .str s ∧ s'.t 5 = .int .i64 (i : Int) ∧ s'.H = H ∧ s'.T = T ∧ i ≤ l.length ∧ ∀ (j : Nat) x, j < i → l[j]? = some x → x ≠ s) l.length ⟨0, by simp [upd, argT]⟩ (fun i s h => h.2.2.2.2.2.1) ?_ (XL_mono _)
        rintro i ⟨t, H', T'⟩ ⟨h0, h1, h5, rfl, rfl, hi, hF⟩
        simp only at h0 h1 h5
        by_cases ha : i < l.length
        · have d1 : decide ((i : Int) < l.length) = true := by simpa using ha
          have e : l[i]? = some l[i] := by simp [ha]
          rcases tf (l[i] == s) with g | g
          · have hI : l.contains s = true := by
              have : l[i] = s := by simpa using g
              rw [List.contains_iff_mem, ← this]; exact List.getElem_mem ha
            simp +contextual (maxSteps := 10000000) only [h0, h1, h5, d1, e, g, hI, Option.map_some, go_sem, W_draw]
          · simp +contextual (maxSteps := 10000000) only [h0, h1, h5, d1, e, g, Option.map_some, wrap_natY i (by omega), go_sem, W_draw]
            refine ⟨by omega, fun j x hj hx => ?_⟩
            rcases Nat.lt_or_ge j i with h' | h'
            · exact hF j x h' hx
            · have : j = i := by omega
              subst this; rw [e] at hx; injection hx with hx; subst hx; simpa using g
        · have d1 : decide ((i : Int) < l.length) = false := by simpa using ha
          have hI : l.contains s = false := by
            rw [← Bool.not_eq_true, List.contains_iff_mem]
            intro hm
            obtain ⟨j, hj, rfl⟩ := List.getElem_of_mem hm
            exact hF j _ (by omega) (List.getElem?_eq_getElem hj) rfl
          simp +contextual (maxSteps := 10000000) only [h0, h1, h5, d1, hI, go_sem, W_draw]
      · cases h
    · cases h
  · cases h
end GP
