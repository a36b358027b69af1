import Derived.Test.YtnipbngimicldaaGpZ
namespace GP
/-- The functions that change memory. -/
def imp : List Nat := []
end GP
