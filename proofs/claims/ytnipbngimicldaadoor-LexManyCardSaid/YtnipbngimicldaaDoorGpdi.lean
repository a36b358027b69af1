import Derived.Test.YtnipbngimicldaaDoorGpZ
namespace GP
/-- The functions that change memory. -/
def imp : List Nat := []
end GP
