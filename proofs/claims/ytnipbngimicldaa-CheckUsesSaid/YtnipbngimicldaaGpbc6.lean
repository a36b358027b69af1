import Derived.Test.YtnipbngimicldaaGpYe
import Derived.Test.YtnipbngimicldaaGpbi
import Derived.Test.YtnipbngimicldaaProg
namespace GP
open Go Go.Proofs
open Rd O
set_option maxRecDepth 100000
def c99 : C :=
  (.seq (.reg [⟨(some 2), none, .mv (k (.bool false))⟩])
  (.seq (.reg [⟨(some 3), none, .mv (t 0)⟩, ⟨(some 4), none, .mv (t 0)⟩, ⟨(some 5), none, .bin .neq (t 3) (t 4)⟩, ⟨(some 2), none, .mv (t 5)⟩])
  .ret))
theorem fn99 : Fn Go.Proofs.Try.prog 99 6 [.inl 2] c99 :=
  ⟨⟨_, _, Go.Proofs.Try.func99, rfl, by kernel_rfl, Go.Proofs.Try.ntmps99, by kernel_rfl, ⟨fun f => imp.contains f, false⟩, by kernel_rfl⟩⟩

def c100 : C :=
  (.seq (.reg [⟨(some 2), none, .mv (k (.bool false))⟩])
  (.seq (.reg [⟨(some 3), none, .mv (t 0)⟩, ⟨(some 4), none, .mv (t 0)⟩, ⟨(some 5), none, .bin .neq (t 3) (t 4)⟩, ⟨(some 2), none, .mv (t 5)⟩])
  .ret))
theorem fn100 : Fn Go.Proofs.Try.prog 100 6 [.inl 2] c100 :=
  ⟨⟨_, _, Go.Proofs.Try.func100, rfl, by kernel_rfl, Go.Proofs.Try.ntmps100, by kernel_rfl, ⟨fun f => imp.contains f, false⟩, by kernel_rfl⟩⟩

def c101 : C :=
  (.seq (.reg [⟨(some 4), none, .mv (k (.int .i64 0))⟩])
  (.seq (.reg [⟨(some 5), none, .mv (t 0)⟩, ⟨(some 6), none, .mv (t 1)⟩, ⟨(some 7), none, .pcall (k (.fn 105 [] [])) [(t 5), (t 6)]⟩, ⟨(some 4), none, .mv (t 7)⟩])
  .ret))
theorem fn101 : Fn Go.Proofs.Try.prog 101 8 [.inl 4] c101 :=
  ⟨⟨_, _, Go.Proofs.Try.func101, rfl, by kernel_rfl, Go.Proofs.Try.ntmps101, by kernel_rfl, ⟨fun f => imp.contains f, false⟩, by kernel_rfl⟩⟩

end GP
