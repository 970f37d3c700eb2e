/-
  No cell of these rows narrows 'for every input' (looked for: loops, veiled, ifaces, maps, wideKeys, modest, calm, conditions, laid).
  DERIVED. THE GIVEN ROWS OF THIS SEAT. 5 by the template 'for every input the law returns true; each argument reads behind the call as it read before'; 0 by the template 'total and deterministic' (their statements: YtlklapledogdcaaTotals.lean).
  GIVEN WITH THE SEED: the statements are not yours to turn. If you find one false, say at which input.
  Laid BY PROGRAM, IN A SANDBOX (cutbox-rows.mjs): the forced cells as the released guide's own fill.sh prints them over the translation e3f1c44cad3d0096… (all of the seat's roots in one cut). By AI agents, Wed Nov 11 2026. No macro, syntax, notation, axiom, sorry.
-/
import Derived.Test.YtlklapledogdcaaChecked
import GoSem.Claim
import GoSem.ClaimJoined
import GoSem.ClaimMapViews
import Derived.JoinedTies
import Derived.KernelRfl
namespace Go.Proofs.Ytlklapledogdcaa
/- THE CELL 'sum', in the pinned program and in every row, IS THE sha256 OF THE DUMP (.gsa) THAT YtlklapledogdcaaProg.lean LOADS. Nothing in Lean hashes anything: it is a label: what it is worth is what the hold of that sum in a sandbox is worth. -/
noncomputable def Try.pinned : Pinned := { name := "ytlklapledogdcaa", sum := "e3f1c44cad3d0096c81ae2efac18746feb471e834467e99133167c5ff09c6ad0", checked := Try.checked }
namespace Rows
def none {H : Type} : Left H := { results := [], args := [] }

/-- 'keywardlaw12.StoreFull': WHATEVER THE INPUT: true; the input reads as it did. -/
def storeFullSpec : ChangeSpec := { name := "storeFull", fn := fun _ => fun
  | [d1, d2] => { results := [.lit (.bool true)], args := [d1, d2] }
  | _ => none }
def storeFullRow : OpenClaim := { program := "ytlklapledogdcaa", sum := "e3f1c44cad3d0096c81ae2efac18746feb471e834467e99133167c5ff09c6ad0", func := "keyward/keywardlaw12.StoreFull", spec := "storeFull", inPlace := ["slices.overlaps[keyward/api.Record]"], unfollowed := true, recurses := true, apart := false }
def StoreFullSaid : Prop := storeFullRow.holds Try.pinned (OpenSpec.ofChange storeFullSpec)

/-- ITS FALSE NEIGHBOUR: 'it returns false'. Refute it at one input. -/
def storeFullWrong : ChangeSpec := { name := "storeFull", fn := fun _ => fun
  | [d1, d2] => { results := [.lit (.bool false)], args := [d1, d2] }
  | _ => none }
def StoreFullWrongFalsely : Prop := storeFullRow.holds Try.pinned (OpenSpec.ofChange storeFullWrong)

/-- 'keywardlaw12.StoreVersions': WHATEVER THE INPUT: true; the input reads as it did. -/
def storeVersionsSpec : ChangeSpec := { name := "storeVersions", fn := fun _ => fun
  | [d] => { results := [.lit (.bool true)], args := [d] }
  | _ => none }
def storeVersionsRow : OpenClaim := { program := "ytlklapledogdcaa", sum := "e3f1c44cad3d0096c81ae2efac18746feb471e834467e99133167c5ff09c6ad0", func := "keyward/keywardlaw12.StoreVersions", spec := "storeVersions", inPlace := ["slices.overlaps[keyward/api.Record]"], unfollowed := true, recurses := true, apart := false }
def StoreVersionsSaid : Prop := storeVersionsRow.holds Try.pinned (OpenSpec.ofChange storeVersionsSpec)

/-- ITS FALSE NEIGHBOUR: 'it returns false'. Refute it at one input. -/
def storeVersionsWrong : ChangeSpec := { name := "storeVersions", fn := fun _ => fun
  | [d] => { results := [.lit (.bool false)], args := [d] }
  | _ => none }
def StoreVersionsWrongFalsely : Prop := storeVersionsRow.holds Try.pinned (OpenSpec.ofChange storeVersionsWrong)

/-- 'keywardlaw12.StoreScans': WHATEVER THE INPUT: true; the input reads as it did. -/
def storeScansSpec : ChangeSpec := { name := "storeScans", fn := fun _ => fun
  | [d1, d2] => { results := [.lit (.bool true)], args := [d1, d2] }
  | _ => none }
def storeScansRow : OpenClaim := { program := "ytlklapledogdcaa", sum := "e3f1c44cad3d0096c81ae2efac18746feb471e834467e99133167c5ff09c6ad0", func := "keyward/keywardlaw12.StoreScans", spec := "storeScans", inPlace := ["slices.overlaps[keyward/api.Record]"], unfollowed := true, recurses := true, apart := false }
def StoreScansSaid : Prop := storeScansRow.holds Try.pinned (OpenSpec.ofChange storeScansSpec)

/-- ITS FALSE NEIGHBOUR: 'it returns false'. Refute it at one input. -/
def storeScansWrong : ChangeSpec := { name := "storeScans", fn := fun _ => fun
  | [d1, d2] => { results := [.lit (.bool false)], args := [d1, d2] }
  | _ => none }
def StoreScansWrongFalsely : Prop := storeScansRow.holds Try.pinned (OpenSpec.ofChange storeScansWrong)

/-- 'keywardlaw12.StoreActs': WHATEVER THE INPUT: true; the input reads as it did. -/
def storeActsSpec : ChangeSpec := { name := "storeActs", fn := fun _ => fun
  | [d1, d2, d3, d4, d5] => { results := [.lit (.bool true)], args := [d1, d2, d3, d4, d5] }
  | _ => none }
def storeActsRow : OpenClaim := { program := "ytlklapledogdcaa", sum := "e3f1c44cad3d0096c81ae2efac18746feb471e834467e99133167c5ff09c6ad0", func := "keyward/keywardlaw12.StoreActs", spec := "storeActs", inPlace := ["slices.overlaps[keyward/api.Record]"], unfollowed := true, recurses := true, apart := false }
def StoreActsSaid : Prop := storeActsRow.holds Try.pinned (OpenSpec.ofChange storeActsSpec)

/-- ITS FALSE NEIGHBOUR: 'it returns false'. Refute it at one input. -/
def storeActsWrong : ChangeSpec := { name := "storeActs", fn := fun _ => fun
  | [d1, d2, d3, d4, d5] => { results := [.lit (.bool false)], args := [d1, d2, d3, d4, d5] }
  | _ => none }
def StoreActsWrongFalsely : Prop := storeActsRow.holds Try.pinned (OpenSpec.ofChange storeActsWrong)

/-- 'keywardlaw12.StoreCopies': WHATEVER THE INPUT: true; the input reads as it did. -/
def storeCopiesSpec : ChangeSpec := { name := "storeCopies", fn := fun _ => fun
  | [d1, d2] => { results := [.lit (.bool true)], args := [d1, d2] }
  | _ => none }
def storeCopiesRow : OpenClaim := { program := "ytlklapledogdcaa", sum := "e3f1c44cad3d0096c81ae2efac18746feb471e834467e99133167c5ff09c6ad0", func := "keyward/keywardlaw12.StoreCopies", spec := "storeCopies", inPlace := ["slices.overlaps[keyward/api.Record]"], unfollowed := true, recurses := true, apart := false }
def StoreCopiesSaid : Prop := storeCopiesRow.holds Try.pinned (OpenSpec.ofChange storeCopiesSpec)

/-- ITS FALSE NEIGHBOUR: 'it returns false'. Refute it at one input. -/
def storeCopiesWrong : ChangeSpec := { name := "storeCopies", fn := fun _ => fun
  | [d1, d2] => { results := [.lit (.bool false)], args := [d1, d2] }
  | _ => none }
def StoreCopiesWrongFalsely : Prop := storeCopiesRow.holds Try.pinned (OpenSpec.ofChange storeCopiesWrong)

/- THE SECOND FORM. 'bulk': how many values and letters a reading holds, each counted each time it is reached (what is shared counts as often as it is met; a slice's spare places count too). A statement '..UptoSaid' is the law's where the arguments, and the package variables that the reading takes, are together of bulk at most 1048576: NARROWER than '..Said'. Prove '..Said' where nothing that the law and all that it calls make is longer than what came in: it says more and counts as full. Else prove '..UptoSaid'. A law counts once. -/
mutual
def uptoBulk {H : Type} : DataW H → Nat
  | .lit (.string bytes) => bytes.length + 1
  | .lit _ => 1
  | .nil => 1
  | .ptr d => uptoBulk d + 1
  | .slice elems spare => uptoBulkAll elems + uptoBulkAll spare + 1
  | .agg parts => uptoBulkAll parts + 1
  | .iface _ d => uptoBulk d + 1
  | .map entries => uptoBulkEntries entries + 1
  | .held _ => 1
def uptoBulkAll {H : Type} : List (DataW H) → Nat
  | [] => 0
  | d :: r => uptoBulk d + uptoBulkAll r
def uptoBulkEntries {H : Type} : List (Lit × DataW H) → Nat
  | [] => 0
  | x :: r => uptoBulkEntry x + uptoBulkEntries r
def uptoBulkEntry {H : Type} : Lit × DataW H → Nat
  | (.string bytes, d) => bytes.length + uptoBulk d + 1
  | (_, d) => uptoBulk d + 1
 end
def uptoSmall : (H : Type) → List (DataW H) → Bool := fun _ ds => decide (uptoBulkAll ds ≤ 1048576)
def OpenSpec.upto (s : _root_.Go.ChangeSpec) : _root_.Go.OpenSpec := { _root_.Go.OpenSpec.ofChange s with cond := some uptoSmall }

/-- 'keywardlaw12.StoreFull', WHERE WHAT IT READS IS OF BULK AT MOST 1048576: true; the input reads as it did. -/
def storeFullUptoRow : OpenClaim := { program := "ytlklapledogdcaa", sum := "e3f1c44cad3d0096c81ae2efac18746feb471e834467e99133167c5ff09c6ad0", func := "keyward/keywardlaw12.StoreFull", spec := "storeFull", inPlace := ["slices.overlaps[keyward/api.Record]"], unfollowed := true, recurses := true, apart := false, narrowed := true }
def StoreFullUptoSaid : Prop := storeFullUptoRow.holds Try.pinned (OpenSpec.upto storeFullSpec)

/-- 'keywardlaw12.StoreVersions', WHERE WHAT IT READS IS OF BULK AT MOST 1048576: true; the input reads as it did. -/
def storeVersionsUptoRow : OpenClaim := { program := "ytlklapledogdcaa", sum := "e3f1c44cad3d0096c81ae2efac18746feb471e834467e99133167c5ff09c6ad0", func := "keyward/keywardlaw12.StoreVersions", spec := "storeVersions", inPlace := ["slices.overlaps[keyward/api.Record]"], unfollowed := true, recurses := true, apart := false, narrowed := true }
def StoreVersionsUptoSaid : Prop := storeVersionsUptoRow.holds Try.pinned (OpenSpec.upto storeVersionsSpec)

/-- 'keywardlaw12.StoreScans', WHERE WHAT IT READS IS OF BULK AT MOST 1048576: true; the input reads as it did. -/
def storeScansUptoRow : OpenClaim := { program := "ytlklapledogdcaa", sum := "e3f1c44cad3d0096c81ae2efac18746feb471e834467e99133167c5ff09c6ad0", func := "keyward/keywardlaw12.StoreScans", spec := "storeScans", inPlace := ["slices.overlaps[keyward/api.Record]"], unfollowed := true, recurses := true, apart := false, narrowed := true }
def StoreScansUptoSaid : Prop := storeScansUptoRow.holds Try.pinned (OpenSpec.upto storeScansSpec)

/-- 'keywardlaw12.StoreActs', WHERE WHAT IT READS IS OF BULK AT MOST 1048576: true; the input reads as it did. -/
def storeActsUptoRow : OpenClaim := { program := "ytlklapledogdcaa", sum := "e3f1c44cad3d0096c81ae2efac18746feb471e834467e99133167c5ff09c6ad0", func := "keyward/keywardlaw12.StoreActs", spec := "storeActs", inPlace := ["slices.overlaps[keyward/api.Record]"], unfollowed := true, recurses := true, apart := false, narrowed := true }
def StoreActsUptoSaid : Prop := storeActsUptoRow.holds Try.pinned (OpenSpec.upto storeActsSpec)

/-- 'keywardlaw12.StoreCopies', WHERE WHAT IT READS IS OF BULK AT MOST 1048576: true; the input reads as it did. -/
def storeCopiesUptoRow : OpenClaim := { program := "ytlklapledogdcaa", sum := "e3f1c44cad3d0096c81ae2efac18746feb471e834467e99133167c5ff09c6ad0", func := "keyward/keywardlaw12.StoreCopies", spec := "storeCopies", inPlace := ["slices.overlaps[keyward/api.Record]"], unfollowed := true, recurses := true, apart := false, narrowed := true }
def StoreCopiesUptoSaid : Prop := storeCopiesUptoRow.holds Try.pinned (OpenSpec.upto storeCopiesSpec)

end Rows
end Go.Proofs.Ytlklapledogdcaa
