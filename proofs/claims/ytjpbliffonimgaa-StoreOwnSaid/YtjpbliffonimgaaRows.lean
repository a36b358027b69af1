/-
  NARROWER THAN 'FOR EVERY INPUT', by the rows' own cells (each row's printed sentence says how): StoreOrder: loops · StorePlays: loops · StoreOwn: loops · StoreRefits: loops · StoreHas: loops · ValueBags: loops.
  DERIVED. THE GIVEN ROWS OF THIS SEAT. 11 by the template 'for every input the law returns true; each argument reads behind the call as it read before'; 0 by the template 'total and deterministic' (their statements: YtjpbliffonimgaaTotals.lean).
  GIVEN WITH THE SEED: the statements are not yours to turn. If you find one false, say at which input.
  Laid BY PROGRAM, IN A SANDBOX (cutbox-rows.mjs): the forced cells as the released guide's own fill.sh prints them over the translation 080e4d5f8fd203e4… (all of the seat's roots in one cut). By AI agents, Wed Nov 11 2026. No macro, syntax, notation, axiom, sorry.
-/
import Derived.Test.YtjpbliffonimgaaChecked
import GoSem.Claim
import GoSem.ClaimJoined
import GoSem.ClaimMapViews
import Derived.JoinedTies
import Derived.KernelRfl
namespace Go.Proofs.Ytjpbliffonimgaa
/- THE CELL 'sum', in the pinned program and in every row, IS THE sha256 OF THE DUMP (.gsa) THAT YtjpbliffonimgaaProg.lean LOADS. Nothing in Lean hashes anything: it is a label: what it is worth is what the hold of that sum in a sandbox is worth. -/
noncomputable def Try.pinned : Pinned := { name := "ytjpbliffonimgaa", sum := "080e4d5f8fd203e45dc7c06be65b7eb2320bdf4fe199a09cac7377a54b0b9211", checked := Try.checked }
namespace Rows
def none {H : Type} : Left H := { results := [], args := [] }

/-- 'gatepostlaw14.StoreOrder': WHATEVER THE INPUT: true; the input reads as it did. -/
def storeOrderSpec : ChangeSpec := { name := "storeOrder", fn := fun _ => fun
  | [d1, d2, d3] => { results := [.lit (.bool true)], args := [d1, d2, d3] }
  | _ => none }
def storeOrderRow : OpenClaim := { program := "ytjpbliffonimgaa", sum := "080e4d5f8fd203e45dc7c06be65b7eb2320bdf4fe199a09cac7377a54b0b9211", func := "gatepost/gatepostlaw14.StoreOrder", spec := "storeOrder", inPlace := ["internal/bytealg.abigen_runtime_cmpstring", "slices.overlaps[gatepost/store.Row]"], unfollowed := true, recurses := true, loops := true, plainKeys := false, apart := false }
def StoreOrderSaid : Prop := storeOrderRow.holds Try.pinned (OpenSpec.ofChange storeOrderSpec)

/-- ITS FALSE NEIGHBOUR: 'it returns false'. Refute it at one input. -/
def storeOrderWrong : ChangeSpec := { name := "storeOrder", fn := fun _ => fun
  | [d1, d2, d3] => { results := [.lit (.bool false)], args := [d1, d2, d3] }
  | _ => none }
def StoreOrderWrongFalsely : Prop := storeOrderRow.holds Try.pinned (OpenSpec.ofChange storeOrderWrong)

/-- 'gatepostlaw14.StorePlays': WHATEVER THE INPUT: true; the input reads as it did. -/
def storePlaysSpec : ChangeSpec := { name := "storePlays", fn := fun _ => fun
  | [d1, d2] => { results := [.lit (.bool true)], args := [d1, d2] }
  | _ => none }
def storePlaysRow : OpenClaim := { program := "ytjpbliffonimgaa", sum := "080e4d5f8fd203e45dc7c06be65b7eb2320bdf4fe199a09cac7377a54b0b9211", func := "gatepost/gatepostlaw14.StorePlays", spec := "storePlays", inPlace := ["internal/bytealg.abigen_runtime_cmpstring", "slices.overlaps[gatepost/store.Row]"], unfollowed := true, recurses := true, loops := true, plainKeys := false, apart := false }
def StorePlaysSaid : Prop := storePlaysRow.holds Try.pinned (OpenSpec.ofChange storePlaysSpec)

/-- ITS FALSE NEIGHBOUR: 'it returns false'. Refute it at one input. -/
def storePlaysWrong : ChangeSpec := { name := "storePlays", fn := fun _ => fun
  | [d1, d2] => { results := [.lit (.bool false)], args := [d1, d2] }
  | _ => none }
def StorePlaysWrongFalsely : Prop := storePlaysRow.holds Try.pinned (OpenSpec.ofChange storePlaysWrong)

/-- 'gatepostlaw14.StoreOwn': WHATEVER THE INPUT: true; the input reads as it did. -/
def storeOwnSpec : ChangeSpec := { name := "storeOwn", fn := fun _ => fun
  | [d1, d2, d3] => { results := [.lit (.bool true)], args := [d1, d2, d3] }
  | _ => none }
def storeOwnRow : OpenClaim := { program := "ytjpbliffonimgaa", sum := "080e4d5f8fd203e45dc7c06be65b7eb2320bdf4fe199a09cac7377a54b0b9211", func := "gatepost/gatepostlaw14.StoreOwn", spec := "storeOwn", inPlace := ["internal/bytealg.abigen_runtime_cmpstring", "slices.overlaps[gatepost/store.Row]"], unfollowed := true, recurses := true, loops := true, plainKeys := false, apart := false }
def StoreOwnSaid : Prop := storeOwnRow.holds Try.pinned (OpenSpec.ofChange storeOwnSpec)

/-- ITS FALSE NEIGHBOUR: 'it returns false'. Refute it at one input. -/
def storeOwnWrong : ChangeSpec := { name := "storeOwn", fn := fun _ => fun
  | [d1, d2, d3] => { results := [.lit (.bool false)], args := [d1, d2, d3] }
  | _ => none }
def StoreOwnWrongFalsely : Prop := storeOwnRow.holds Try.pinned (OpenSpec.ofChange storeOwnWrong)

/-- 'gatepostlaw14.StoreRefits': WHATEVER THE INPUT: true; the input reads as it did. -/
def storeRefitsSpec : ChangeSpec := { name := "storeRefits", fn := fun _ => fun
  | [d1, d2, d3] => { results := [.lit (.bool true)], args := [d1, d2, d3] }
  | _ => none }
def storeRefitsRow : OpenClaim := { program := "ytjpbliffonimgaa", sum := "080e4d5f8fd203e45dc7c06be65b7eb2320bdf4fe199a09cac7377a54b0b9211", func := "gatepost/gatepostlaw14.StoreRefits", spec := "storeRefits", inPlace := ["internal/bytealg.abigen_runtime_cmpstring", "slices.overlaps[gatepost/store.Row]"], unfollowed := true, recurses := true, loops := true, plainKeys := false, apart := false }
def StoreRefitsSaid : Prop := storeRefitsRow.holds Try.pinned (OpenSpec.ofChange storeRefitsSpec)

/-- ITS FALSE NEIGHBOUR: 'it returns false'. Refute it at one input. -/
def storeRefitsWrong : ChangeSpec := { name := "storeRefits", fn := fun _ => fun
  | [d1, d2, d3] => { results := [.lit (.bool false)], args := [d1, d2, d3] }
  | _ => none }
def StoreRefitsWrongFalsely : Prop := storeRefitsRow.holds Try.pinned (OpenSpec.ofChange storeRefitsWrong)

/-- 'gatepostlaw12.RolesMany': WHATEVER THE INPUT: true; the input reads as it did. -/
def rolesManySpec : ChangeSpec := { name := "rolesMany", fn := fun _ => fun
  | [d] => { results := [.lit (.bool true)], args := [d] }
  | _ => none }
def rolesManyRow : OpenClaim := { program := "ytjpbliffonimgaa", sum := "080e4d5f8fd203e45dc7c06be65b7eb2320bdf4fe199a09cac7377a54b0b9211", func := "gatepost/gatepostlaw12.RolesMany", spec := "rolesMany", unfollowed := true, recurses := true, plainKeys := false, apart := false }
def RolesManySaid : Prop := rolesManyRow.holds Try.pinned (OpenSpec.ofChange rolesManySpec)

/-- ITS FALSE NEIGHBOUR: 'it returns false'. Refute it at one input. -/
def rolesManyWrong : ChangeSpec := { name := "rolesMany", fn := fun _ => fun
  | [d] => { results := [.lit (.bool false)], args := [d] }
  | _ => none }
def RolesManyWrongFalsely : Prop := rolesManyRow.holds Try.pinned (OpenSpec.ofChange rolesManyWrong)

/-- 'gatepostlaw14.StoreHas': WHATEVER THE INPUT: true; the input reads as it did. -/
def storeHasSpec : ChangeSpec := { name := "storeHas", fn := fun _ => fun
  | [d1, d2, d3] => { results := [.lit (.bool true)], args := [d1, d2, d3] }
  | _ => none }
def storeHasRow : OpenClaim := { program := "ytjpbliffonimgaa", sum := "080e4d5f8fd203e45dc7c06be65b7eb2320bdf4fe199a09cac7377a54b0b9211", func := "gatepost/gatepostlaw14.StoreHas", spec := "storeHas", inPlace := ["internal/bytealg.abigen_runtime_cmpstring", "slices.overlaps[gatepost/store.Row]"], unfollowed := true, recurses := true, loops := true, plainKeys := false, apart := false }
def StoreHasSaid : Prop := storeHasRow.holds Try.pinned (OpenSpec.ofChange storeHasSpec)

/-- ITS FALSE NEIGHBOUR: 'it returns false'. Refute it at one input. -/
def storeHasWrong : ChangeSpec := { name := "storeHas", fn := fun _ => fun
  | [d1, d2, d3] => { results := [.lit (.bool false)], args := [d1, d2, d3] }
  | _ => none }
def StoreHasWrongFalsely : Prop := storeHasRow.holds Try.pinned (OpenSpec.ofChange storeHasWrong)

/-- 'gatepostlaw12.RolesCycles': WHATEVER THE INPUT: true; the input reads as it did. -/
def rolesCyclesSpec : ChangeSpec := { name := "rolesCycles", fn := fun _ => fun
  | [d1, d2] => { results := [.lit (.bool true)], args := [d1, d2] }
  | _ => none }
def rolesCyclesRow : OpenClaim := { program := "ytjpbliffonimgaa", sum := "080e4d5f8fd203e45dc7c06be65b7eb2320bdf4fe199a09cac7377a54b0b9211", func := "gatepost/gatepostlaw12.RolesCycles", spec := "rolesCycles", unfollowed := true, recurses := true, plainKeys := false, apart := false }
def RolesCyclesSaid : Prop := rolesCyclesRow.holds Try.pinned (OpenSpec.ofChange rolesCyclesSpec)

/-- ITS FALSE NEIGHBOUR: 'it returns false'. Refute it at one input. -/
def rolesCyclesWrong : ChangeSpec := { name := "rolesCycles", fn := fun _ => fun
  | [d1, d2] => { results := [.lit (.bool false)], args := [d1, d2] }
  | _ => none }
def RolesCyclesWrongFalsely : Prop := rolesCyclesRow.holds Try.pinned (OpenSpec.ofChange rolesCyclesWrong)

/-- 'gatepostlaw12.RolesPlays': WHATEVER THE INPUT: true; the input reads as it did. -/
def rolesPlaysSpec : ChangeSpec := { name := "rolesPlays", fn := fun _ => fun
  | [d1, d2, d3] => { results := [.lit (.bool true)], args := [d1, d2, d3] }
  | _ => none }
def rolesPlaysRow : OpenClaim := { program := "ytjpbliffonimgaa", sum := "080e4d5f8fd203e45dc7c06be65b7eb2320bdf4fe199a09cac7377a54b0b9211", func := "gatepost/gatepostlaw12.RolesPlays", spec := "rolesPlays", unfollowed := true, recurses := true, plainKeys := false, apart := false }
def RolesPlaysSaid : Prop := rolesPlaysRow.holds Try.pinned (OpenSpec.ofChange rolesPlaysSpec)

/-- ITS FALSE NEIGHBOUR: 'it returns false'. Refute it at one input. -/
def rolesPlaysWrong : ChangeSpec := { name := "rolesPlays", fn := fun _ => fun
  | [d1, d2, d3] => { results := [.lit (.bool false)], args := [d1, d2, d3] }
  | _ => none }
def RolesPlaysWrongFalsely : Prop := rolesPlaysRow.holds Try.pinned (OpenSpec.ofChange rolesPlaysWrong)

/-- 'gatepostlaw12.RolesUndone': WHATEVER THE INPUT: true; the input reads as it did. -/
def rolesUndoneSpec : ChangeSpec := { name := "rolesUndone", fn := fun _ => fun
  | [d1, d2, d3] => { results := [.lit (.bool true)], args := [d1, d2, d3] }
  | _ => none }
def rolesUndoneRow : OpenClaim := { program := "ytjpbliffonimgaa", sum := "080e4d5f8fd203e45dc7c06be65b7eb2320bdf4fe199a09cac7377a54b0b9211", func := "gatepost/gatepostlaw12.RolesUndone", spec := "rolesUndone", inPlace := ["maps.clone"], unfollowed := true, recurses := true, plainKeys := false, apart := false }
def RolesUndoneSaid : Prop := rolesUndoneRow.holds Try.pinned (OpenSpec.ofChange rolesUndoneSpec)

/-- ITS FALSE NEIGHBOUR: 'it returns false'. Refute it at one input. -/
def rolesUndoneWrong : ChangeSpec := { name := "rolesUndone", fn := fun _ => fun
  | [d1, d2, d3] => { results := [.lit (.bool false)], args := [d1, d2, d3] }
  | _ => none }
def RolesUndoneWrongFalsely : Prop := rolesUndoneRow.holds Try.pinned (OpenSpec.ofChange rolesUndoneWrong)

/-- 'gatepostlaw02.ValueBags': WHATEVER THE INPUT: true; the input reads as it did. -/
def valueBagsSpec : ChangeSpec := { name := "valueBags", fn := fun _ => fun
  | [d] => { results := [.lit (.bool true)], args := [d] }
  | _ => none }
def valueBagsRow : OpenClaim := { program := "ytjpbliffonimgaa", sum := "080e4d5f8fd203e45dc7c06be65b7eb2320bdf4fe199a09cac7377a54b0b9211", func := "gatepost/gatepostlaw02.ValueBags", spec := "valueBags", inPlace := ["internal/bytealg.abigen_runtime_cmpstring"], unfollowed := true, recurses := true, loops := true, plainKeys := false, apart := false }
def ValueBagsSaid : Prop := valueBagsRow.holds Try.pinned (OpenSpec.ofChange valueBagsSpec)

/-- ITS FALSE NEIGHBOUR: 'it returns false'. Refute it at one input. -/
def valueBagsWrong : ChangeSpec := { name := "valueBags", fn := fun _ => fun
  | [d] => { results := [.lit (.bool false)], args := [d] }
  | _ => none }
def ValueBagsWrongFalsely : Prop := valueBagsRow.holds Try.pinned (OpenSpec.ofChange valueBagsWrong)

/-- 'gatepostlaw12.RolesOf': WHATEVER THE INPUT: true; the input reads as it did. -/
def rolesOfSpec : ChangeSpec := { name := "rolesOf", fn := fun _ => fun
  | [d1, d2] => { results := [.lit (.bool true)], args := [d1, d2] }
  | _ => none }
def rolesOfRow : OpenClaim := { program := "ytjpbliffonimgaa", sum := "080e4d5f8fd203e45dc7c06be65b7eb2320bdf4fe199a09cac7377a54b0b9211", func := "gatepost/gatepostlaw12.RolesOf", spec := "rolesOf", unfollowed := true, recurses := true, plainKeys := false, apart := false }
def RolesOfSaid : Prop := rolesOfRow.holds Try.pinned (OpenSpec.ofChange rolesOfSpec)

/-- ITS FALSE NEIGHBOUR: 'it returns false'. Refute it at one input. -/
def rolesOfWrong : ChangeSpec := { name := "rolesOf", fn := fun _ => fun
  | [d1, d2] => { results := [.lit (.bool false)], args := [d1, d2] }
  | _ => none }
def RolesOfWrongFalsely : Prop := rolesOfRow.holds Try.pinned (OpenSpec.ofChange rolesOfWrong)

/- THE SECOND FORM. 'bulk': how many values and letters a reading holds, each counted each time it is reached (what is shared counts as often as it is met; a slice's spare places count too). A statement '..UptoSaid' is the law's where the arguments, and the package variables that the reading takes, are together of bulk at most 1048576: NARROWER than '..Said'. Prove '..Said' where nothing that the law and all that it calls make is longer than what came in: it says more and counts as full. Else prove '..UptoSaid'. A law counts once. -/
mutual
def uptoBulk {H : Type} : DataW H → Nat
  | .lit (.string bytes) => bytes.length + 1
  | .lit _ => 1
  | .nil => 1
  | .ptr d => uptoBulk d + 1
  | .slice elems spare => uptoBulkAll elems + uptoBulkAll spare + 1
  | .agg parts => uptoBulkAll parts + 1
  | .iface _ d => uptoBulk d + 1
  | .map entries => uptoBulkEntries entries + 1
  | .held _ => 1
def uptoBulkAll {H : Type} : List (DataW H) → Nat
  | [] => 0
  | d :: r => uptoBulk d + uptoBulkAll r
def uptoBulkEntries {H : Type} : List (Lit × DataW H) → Nat
  | [] => 0
  | x :: r => uptoBulkEntry x + uptoBulkEntries r
def uptoBulkEntry {H : Type} : Lit × DataW H → Nat
  | (.string bytes, d) => bytes.length + uptoBulk d + 1
  | (_, d) => uptoBulk d + 1
 end
def uptoSmall : (H : Type) → List (DataW H) → Bool := fun _ ds => decide (uptoBulkAll ds ≤ 1048576)
def OpenSpec.upto (s : _root_.Go.ChangeSpec) : _root_.Go.OpenSpec := { _root_.Go.OpenSpec.ofChange s with cond := some uptoSmall }

/-- 'gatepostlaw14.StoreOrder', WHERE WHAT IT READS IS OF BULK AT MOST 1048576: true; the input reads as it did. -/
def storeOrderUptoRow : OpenClaim := { program := "ytjpbliffonimgaa", sum := "080e4d5f8fd203e45dc7c06be65b7eb2320bdf4fe199a09cac7377a54b0b9211", func := "gatepost/gatepostlaw14.StoreOrder", spec := "storeOrder", inPlace := ["internal/bytealg.abigen_runtime_cmpstring", "slices.overlaps[gatepost/store.Row]"], unfollowed := true, recurses := true, loops := true, plainKeys := false, apart := false, narrowed := true }
def StoreOrderUptoSaid : Prop := storeOrderUptoRow.holds Try.pinned (OpenSpec.upto storeOrderSpec)

/-- 'gatepostlaw14.StorePlays', WHERE WHAT IT READS IS OF BULK AT MOST 1048576: true; the input reads as it did. -/
def storePlaysUptoRow : OpenClaim := { program := "ytjpbliffonimgaa", sum := "080e4d5f8fd203e45dc7c06be65b7eb2320bdf4fe199a09cac7377a54b0b9211", func := "gatepost/gatepostlaw14.StorePlays", spec := "storePlays", inPlace := ["internal/bytealg.abigen_runtime_cmpstring", "slices.overlaps[gatepost/store.Row]"], unfollowed := true, recurses := true, loops := true, plainKeys := false, apart := false, narrowed := true }
def StorePlaysUptoSaid : Prop := storePlaysUptoRow.holds Try.pinned (OpenSpec.upto storePlaysSpec)

/-- 'gatepostlaw14.StoreOwn', WHERE WHAT IT READS IS OF BULK AT MOST 1048576: true; the input reads as it did. -/
def storeOwnUptoRow : OpenClaim := { program := "ytjpbliffonimgaa", sum := "080e4d5f8fd203e45dc7c06be65b7eb2320bdf4fe199a09cac7377a54b0b9211", func := "gatepost/gatepostlaw14.StoreOwn", spec := "storeOwn", inPlace := ["internal/bytealg.abigen_runtime_cmpstring", "slices.overlaps[gatepost/store.Row]"], unfollowed := true, recurses := true, loops := true, plainKeys := false, apart := false, narrowed := true }
def StoreOwnUptoSaid : Prop := storeOwnUptoRow.holds Try.pinned (OpenSpec.upto storeOwnSpec)

/-- 'gatepostlaw14.StoreRefits', WHERE WHAT IT READS IS OF BULK AT MOST 1048576: true; the input reads as it did. -/
def storeRefitsUptoRow : OpenClaim := { program := "ytjpbliffonimgaa", sum := "080e4d5f8fd203e45dc7c06be65b7eb2320bdf4fe199a09cac7377a54b0b9211", func := "gatepost/gatepostlaw14.StoreRefits", spec := "storeRefits", inPlace := ["internal/bytealg.abigen_runtime_cmpstring", "slices.overlaps[gatepost/store.Row]"], unfollowed := true, recurses := true, loops := true, plainKeys := false, apart := false, narrowed := true }
def StoreRefitsUptoSaid : Prop := storeRefitsUptoRow.holds Try.pinned (OpenSpec.upto storeRefitsSpec)

/-- 'gatepostlaw12.RolesMany', WHERE WHAT IT READS IS OF BULK AT MOST 1048576: true; the input reads as it did. -/
def rolesManyUptoRow : OpenClaim := { program := "ytjpbliffonimgaa", sum := "080e4d5f8fd203e45dc7c06be65b7eb2320bdf4fe199a09cac7377a54b0b9211", func := "gatepost/gatepostlaw12.RolesMany", spec := "rolesMany", unfollowed := true, recurses := true, plainKeys := false, apart := false, narrowed := true }
def RolesManyUptoSaid : Prop := rolesManyUptoRow.holds Try.pinned (OpenSpec.upto rolesManySpec)

/-- 'gatepostlaw14.StoreHas', WHERE WHAT IT READS IS OF BULK AT MOST 1048576: true; the input reads as it did. -/
def storeHasUptoRow : OpenClaim := { program := "ytjpbliffonimgaa", sum := "080e4d5f8fd203e45dc7c06be65b7eb2320bdf4fe199a09cac7377a54b0b9211", func := "gatepost/gatepostlaw14.StoreHas", spec := "storeHas", inPlace := ["internal/bytealg.abigen_runtime_cmpstring", "slices.overlaps[gatepost/store.Row]"], unfollowed := true, recurses := true, loops := true, plainKeys := false, apart := false, narrowed := true }
def StoreHasUptoSaid : Prop := storeHasUptoRow.holds Try.pinned (OpenSpec.upto storeHasSpec)

/-- 'gatepostlaw12.RolesCycles', WHERE WHAT IT READS IS OF BULK AT MOST 1048576: true; the input reads as it did. -/
def rolesCyclesUptoRow : OpenClaim := { program := "ytjpbliffonimgaa", sum := "080e4d5f8fd203e45dc7c06be65b7eb2320bdf4fe199a09cac7377a54b0b9211", func := "gatepost/gatepostlaw12.RolesCycles", spec := "rolesCycles", unfollowed := true, recurses := true, plainKeys := false, apart := false, narrowed := true }
def RolesCyclesUptoSaid : Prop := rolesCyclesUptoRow.holds Try.pinned (OpenSpec.upto rolesCyclesSpec)

/-- 'gatepostlaw12.RolesPlays', WHERE WHAT IT READS IS OF BULK AT MOST 1048576: true; the input reads as it did. -/
def rolesPlaysUptoRow : OpenClaim := { program := "ytjpbliffonimgaa", sum := "080e4d5f8fd203e45dc7c06be65b7eb2320bdf4fe199a09cac7377a54b0b9211", func := "gatepost/gatepostlaw12.RolesPlays", spec := "rolesPlays", unfollowed := true, recurses := true, plainKeys := false, apart := false, narrowed := true }
def RolesPlaysUptoSaid : Prop := rolesPlaysUptoRow.holds Try.pinned (OpenSpec.upto rolesPlaysSpec)

/-- 'gatepostlaw12.RolesUndone', WHERE WHAT IT READS IS OF BULK AT MOST 1048576: true; the input reads as it did. -/
def rolesUndoneUptoRow : OpenClaim := { program := "ytjpbliffonimgaa", sum := "080e4d5f8fd203e45dc7c06be65b7eb2320bdf4fe199a09cac7377a54b0b9211", func := "gatepost/gatepostlaw12.RolesUndone", spec := "rolesUndone", inPlace := ["maps.clone"], unfollowed := true, recurses := true, plainKeys := false, apart := false, narrowed := true }
def RolesUndoneUptoSaid : Prop := rolesUndoneUptoRow.holds Try.pinned (OpenSpec.upto rolesUndoneSpec)

/-- 'gatepostlaw02.ValueBags', WHERE WHAT IT READS IS OF BULK AT MOST 1048576: true; the input reads as it did. -/
def valueBagsUptoRow : OpenClaim := { program := "ytjpbliffonimgaa", sum := "080e4d5f8fd203e45dc7c06be65b7eb2320bdf4fe199a09cac7377a54b0b9211", func := "gatepost/gatepostlaw02.ValueBags", spec := "valueBags", inPlace := ["internal/bytealg.abigen_runtime_cmpstring"], unfollowed := true, recurses := true, loops := true, plainKeys := false, apart := false, narrowed := true }
def ValueBagsUptoSaid : Prop := valueBagsUptoRow.holds Try.pinned (OpenSpec.upto valueBagsSpec)

/-- 'gatepostlaw12.RolesOf', WHERE WHAT IT READS IS OF BULK AT MOST 1048576: true; the input reads as it did. -/
def rolesOfUptoRow : OpenClaim := { program := "ytjpbliffonimgaa", sum := "080e4d5f8fd203e45dc7c06be65b7eb2320bdf4fe199a09cac7377a54b0b9211", func := "gatepost/gatepostlaw12.RolesOf", spec := "rolesOf", unfollowed := true, recurses := true, plainKeys := false, apart := false, narrowed := true }
def RolesOfUptoSaid : Prop := rolesOfUptoRow.holds Try.pinned (OpenSpec.upto rolesOfSpec)

end Rows
end Go.Proofs.Ytjpbliffonimgaa
