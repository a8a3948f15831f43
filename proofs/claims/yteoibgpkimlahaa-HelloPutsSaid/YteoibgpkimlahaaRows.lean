/-
  NARROWER THAN 'FOR EVERY INPUT', by the rows' own cells (each row's printed sentence says how): WalkItems: loops · RlpCaps: loops · RlpCuts: loops · RlpPuts: loops.
  DERIVED. THE GIVEN ROWS OF THIS SEAT. 11 by the template 'for every input the law returns true; each argument reads behind the call as it read before'; 0 by the template 'total and deterministic' (their statements: YteoibgpkimlahaaTotals.lean).
  GIVEN WITH THE SEED: the statements are not yours to turn. If you find one false, say at which input.
  Laid BY PROGRAM, IN A SANDBOX (cutbox-rows.mjs): the forced cells as the released guide's own fill.sh prints them over the translation 6d401d104ccb002e… (all of the seat's roots in one cut). By AI agents, Wed Nov 11 2026. No macro, syntax, notation, axiom, sorry.
-/
import Derived.Test.YteoibgpkimlahaaChecked
import GoSem.Claim
import GoSem.ClaimJoined
import GoSem.ClaimMapViews
import Derived.JoinedTies
import Derived.KernelRfl
namespace Go.Proofs.Yteoibgpkimlahaa
/- THE CELL 'sum', in the pinned program and in every row, IS THE sha256 OF THE DUMP (.gsa) THAT YteoibgpkimlahaaProg.lean LOADS. Nothing in Lean hashes anything: it is a label: what it is worth is what the hold of that sum in a sandbox is worth. -/
noncomputable def Try.pinned : Pinned := { name := "yteoibgpkimlahaa", sum := "6d401d104ccb002e7b6dc6c9256883fcf19a413ca521a2ea68894448d43ec890", checked := Try.checked }
namespace Rows
def none {H : Type} : Left H := { results := [], args := [] }

/-- 'hatchwaylaw02.FixedOrder': WHATEVER THE INPUT: true; the input reads as it did. -/
def fixedOrderSpec : ChangeSpec := { name := "fixedOrder", fn := fun _ => fun
  | [d1, d2] => { results := [.lit (.bool true)], args := [d1, d2] }
  | _ => none }
def fixedOrderRow : OpenClaim := { program := "yteoibgpkimlahaa", sum := "6d401d104ccb002e7b6dc6c9256883fcf19a413ca521a2ea68894448d43ec890", func := "hatchway/hatchwaylaw02.FixedOrder", spec := "fixedOrder", unfollowed := true, recurses := true, apart := false }
def FixedOrderSaid : Prop := fixedOrderRow.holds Try.pinned (OpenSpec.ofChange fixedOrderSpec)

/-- ITS FALSE NEIGHBOUR: 'it returns false'. Refute it at one input. -/
def fixedOrderWrong : ChangeSpec := { name := "fixedOrder", fn := fun _ => fun
  | [d1, d2] => { results := [.lit (.bool false)], args := [d1, d2] }
  | _ => none }
def FixedOrderWrongFalsely : Prop := fixedOrderRow.holds Try.pinned (OpenSpec.ofChange fixedOrderWrong)

/-- 'hatchwaylaw02.FixedPuts': WHATEVER THE INPUT: true; the input reads as it did. -/
def fixedPutsSpec : ChangeSpec := { name := "fixedPuts", fn := fun _ => fun
  | [d1, d2] => { results := [.lit (.bool true)], args := [d1, d2] }
  | _ => none }
def fixedPutsRow : OpenClaim := { program := "yteoibgpkimlahaa", sum := "6d401d104ccb002e7b6dc6c9256883fcf19a413ca521a2ea68894448d43ec890", func := "hatchway/hatchwaylaw02.FixedPuts", spec := "fixedPuts", unfollowed := true, recurses := true, apart := false }
def FixedPutsSaid : Prop := fixedPutsRow.holds Try.pinned (OpenSpec.ofChange fixedPutsSpec)

/-- ITS FALSE NEIGHBOUR: 'it returns false'. Refute it at one input. -/
def fixedPutsWrong : ChangeSpec := { name := "fixedPuts", fn := fun _ => fun
  | [d1, d2] => { results := [.lit (.bool false)], args := [d1, d2] }
  | _ => none }
def FixedPutsWrongFalsely : Prop := fixedPutsRow.holds Try.pinned (OpenSpec.ofChange fixedPutsWrong)

/-- 'hatchwaylaw02.FixedGets': WHATEVER THE INPUT: true; the input reads as it did. -/
def fixedGetsSpec : ChangeSpec := { name := "fixedGets", fn := fun _ => fun
  | [d] => { results := [.lit (.bool true)], args := [d] }
  | _ => none }
def fixedGetsRow : OpenClaim := { program := "yteoibgpkimlahaa", sum := "6d401d104ccb002e7b6dc6c9256883fcf19a413ca521a2ea68894448d43ec890", func := "hatchway/hatchwaylaw02.FixedGets", spec := "fixedGets", unfollowed := true, recurses := true, apart := false }
def FixedGetsSaid : Prop := fixedGetsRow.holds Try.pinned (OpenSpec.ofChange fixedGetsSpec)

/-- ITS FALSE NEIGHBOUR: 'it returns false'. Refute it at one input. -/
def fixedGetsWrong : ChangeSpec := { name := "fixedGets", fn := fun _ => fun
  | [d] => { results := [.lit (.bool false)], args := [d] }
  | _ => none }
def FixedGetsWrongFalsely : Prop := fixedGetsRow.holds Try.pinned (OpenSpec.ofChange fixedGetsWrong)

/-- 'hatchwaylaw32.HelloAgrees': WHATEVER THE INPUT: true; the input reads as it did. -/
def helloAgreesSpec : ChangeSpec := { name := "helloAgrees", fn := fun _ => fun
  | [d1, d2, d3] => { results := [.lit (.bool true)], args := [d1, d2, d3] }
  | _ => none }
def helloAgreesRow : OpenClaim := { program := "yteoibgpkimlahaa", sum := "6d401d104ccb002e7b6dc6c9256883fcf19a413ca521a2ea68894448d43ec890", func := "hatchway/hatchwaylaw32.HelloAgrees", spec := "helloAgrees", inPlace := ["internal/bytealg.abigen_runtime_cmpstring"], unfollowed := true, recurses := true, apart := false }
def HelloAgreesSaid : Prop := helloAgreesRow.holds Try.pinned (OpenSpec.ofChange helloAgreesSpec)

/-- ITS FALSE NEIGHBOUR: 'it returns false'. Refute it at one input. -/
def helloAgreesWrong : ChangeSpec := { name := "helloAgrees", fn := fun _ => fun
  | [d1, d2, d3] => { results := [.lit (.bool false)], args := [d1, d2, d3] }
  | _ => none }
def HelloAgreesWrongFalsely : Prop := helloAgreesRow.holds Try.pinned (OpenSpec.ofChange helloAgreesWrong)

/-- 'hatchwaylaw10.WalkItems': WHATEVER THE INPUT: true; the input reads as it did. -/
def walkItemsSpec : ChangeSpec := { name := "walkItems", fn := fun _ => fun
  | [d] => { results := [.lit (.bool true)], args := [d] }
  | _ => none }
def walkItemsRow : OpenClaim := { program := "yteoibgpkimlahaa", sum := "6d401d104ccb002e7b6dc6c9256883fcf19a413ca521a2ea68894448d43ec890", func := "hatchway/hatchwaylaw10.WalkItems", spec := "walkItems", inPlace := ["internal/abi.NoEscape"], unfollowed := true, recurses := true, loops := true, apart := false }
def WalkItemsSaid : Prop := walkItemsRow.holds Try.pinned (OpenSpec.ofChange walkItemsSpec)

/-- ITS FALSE NEIGHBOUR: 'it returns false'. Refute it at one input. -/
def walkItemsWrong : ChangeSpec := { name := "walkItems", fn := fun _ => fun
  | [d] => { results := [.lit (.bool false)], args := [d] }
  | _ => none }
def WalkItemsWrongFalsely : Prop := walkItemsRow.holds Try.pinned (OpenSpec.ofChange walkItemsWrong)

/-- 'hatchwaylaw10.WalkBuilds': WHATEVER THE INPUT: true; the input reads as it did. -/
def walkBuildsSpec : ChangeSpec := { name := "walkBuilds", fn := fun _ => fun
  | [d] => { results := [.lit (.bool true)], args := [d] }
  | _ => none }
def walkBuildsRow : OpenClaim := { program := "yteoibgpkimlahaa", sum := "6d401d104ccb002e7b6dc6c9256883fcf19a413ca521a2ea68894448d43ec890", func := "hatchway/hatchwaylaw10.WalkBuilds", spec := "walkBuilds", inPlace := ["internal/abi.NoEscape"], unfollowed := true, recurses := true, apart := false }
def WalkBuildsSaid : Prop := walkBuildsRow.holds Try.pinned (OpenSpec.ofChange walkBuildsSpec)

/-- ITS FALSE NEIGHBOUR: 'it returns false'. Refute it at one input. -/
def walkBuildsWrong : ChangeSpec := { name := "walkBuilds", fn := fun _ => fun
  | [d] => { results := [.lit (.bool false)], args := [d] }
  | _ => none }
def WalkBuildsWrongFalsely : Prop := walkBuildsRow.holds Try.pinned (OpenSpec.ofChange walkBuildsWrong)

/-- 'hatchwaylaw09.RlpCaps': WHATEVER THE INPUT: true; the input reads as it did. -/
def rlpCapsSpec : ChangeSpec := { name := "rlpCaps", fn := fun _ => fun
  | [d1, d2] => { results := [.lit (.bool true)], args := [d1, d2] }
  | _ => none }
def rlpCapsRow : OpenClaim := { program := "yteoibgpkimlahaa", sum := "6d401d104ccb002e7b6dc6c9256883fcf19a413ca521a2ea68894448d43ec890", func := "hatchway/hatchwaylaw09.RlpCaps", spec := "rlpCaps", inPlace := ["internal/abi.NoEscape"], unfollowed := true, recurses := true, loops := true, apart := false }
def RlpCapsSaid : Prop := rlpCapsRow.holds Try.pinned (OpenSpec.ofChange rlpCapsSpec)

/-- ITS FALSE NEIGHBOUR: 'it returns false'. Refute it at one input. -/
def rlpCapsWrong : ChangeSpec := { name := "rlpCaps", fn := fun _ => fun
  | [d1, d2] => { results := [.lit (.bool false)], args := [d1, d2] }
  | _ => none }
def RlpCapsWrongFalsely : Prop := rlpCapsRow.holds Try.pinned (OpenSpec.ofChange rlpCapsWrong)

/-- 'hatchwaylaw09.RlpCuts': WHATEVER THE INPUT: true; the input reads as it did. -/
def rlpCutsSpec : ChangeSpec := { name := "rlpCuts", fn := fun _ => fun
  | [d1, d2, d3] => { results := [.lit (.bool true)], args := [d1, d2, d3] }
  | _ => none }
def rlpCutsRow : OpenClaim := { program := "yteoibgpkimlahaa", sum := "6d401d104ccb002e7b6dc6c9256883fcf19a413ca521a2ea68894448d43ec890", func := "hatchway/hatchwaylaw09.RlpCuts", spec := "rlpCuts", inPlace := ["internal/abi.NoEscape"], unfollowed := true, recurses := true, loops := true, apart := false }
def RlpCutsSaid : Prop := rlpCutsRow.holds Try.pinned (OpenSpec.ofChange rlpCutsSpec)

/-- ITS FALSE NEIGHBOUR: 'it returns false'. Refute it at one input. -/
def rlpCutsWrong : ChangeSpec := { name := "rlpCuts", fn := fun _ => fun
  | [d1, d2, d3] => { results := [.lit (.bool false)], args := [d1, d2, d3] }
  | _ => none }
def RlpCutsWrongFalsely : Prop := rlpCutsRow.holds Try.pinned (OpenSpec.ofChange rlpCutsWrong)

/-- 'hatchwaylaw09.RlpPuts': WHATEVER THE INPUT: true; the input reads as it did. -/
def rlpPutsSpec : ChangeSpec := { name := "rlpPuts", fn := fun _ => fun
  | [d] => { results := [.lit (.bool true)], args := [d] }
  | _ => none }
def rlpPutsRow : OpenClaim := { program := "yteoibgpkimlahaa", sum := "6d401d104ccb002e7b6dc6c9256883fcf19a413ca521a2ea68894448d43ec890", func := "hatchway/hatchwaylaw09.RlpPuts", spec := "rlpPuts", inPlace := ["internal/abi.NoEscape"], unfollowed := true, recurses := true, loops := true, apart := false }
def RlpPutsSaid : Prop := rlpPutsRow.holds Try.pinned (OpenSpec.ofChange rlpPutsSpec)

/-- ITS FALSE NEIGHBOUR: 'it returns false'. Refute it at one input. -/
def rlpPutsWrong : ChangeSpec := { name := "rlpPuts", fn := fun _ => fun
  | [d] => { results := [.lit (.bool false)], args := [d] }
  | _ => none }
def RlpPutsWrongFalsely : Prop := rlpPutsRow.holds Try.pinned (OpenSpec.ofChange rlpPutsWrong)

/-- 'hatchwaylaw32.HelloPuts': WHATEVER THE INPUT: true; the input reads as it did. -/
def helloPutsSpec : ChangeSpec := { name := "helloPuts", fn := fun _ => fun
  | [d] => { results := [.lit (.bool true)], args := [d] }
  | _ => none }
def helloPutsRow : OpenClaim := { program := "yteoibgpkimlahaa", sum := "6d401d104ccb002e7b6dc6c9256883fcf19a413ca521a2ea68894448d43ec890", func := "hatchway/hatchwaylaw32.HelloPuts", spec := "helloPuts", inPlace := ["internal/bytealg.abigen_runtime_cmpstring", "internal/abi.NoEscape"], unfollowed := true, recurses := true, apart := false }
def HelloPutsSaid : Prop := helloPutsRow.holds Try.pinned (OpenSpec.ofChange helloPutsSpec)

/-- ITS FALSE NEIGHBOUR: 'it returns false'. Refute it at one input. -/
def helloPutsWrong : ChangeSpec := { name := "helloPuts", fn := fun _ => fun
  | [d] => { results := [.lit (.bool false)], args := [d] }
  | _ => none }
def HelloPutsWrongFalsely : Prop := helloPutsRow.holds Try.pinned (OpenSpec.ofChange helloPutsWrong)

/-- 'hatchwaylaw32.HelloGets': WHATEVER THE INPUT: true; the input reads as it did. -/
def helloGetsSpec : ChangeSpec := { name := "helloGets", fn := fun _ => fun
  | [d] => { results := [.lit (.bool true)], args := [d] }
  | _ => none }
def helloGetsRow : OpenClaim := { program := "yteoibgpkimlahaa", sum := "6d401d104ccb002e7b6dc6c9256883fcf19a413ca521a2ea68894448d43ec890", func := "hatchway/hatchwaylaw32.HelloGets", spec := "helloGets", inPlace := ["internal/bytealg.abigen_runtime_cmpstring", "internal/abi.NoEscape"], unfollowed := true, recurses := true, apart := false }
def HelloGetsSaid : Prop := helloGetsRow.holds Try.pinned (OpenSpec.ofChange helloGetsSpec)

/-- ITS FALSE NEIGHBOUR: 'it returns false'. Refute it at one input. -/
def helloGetsWrong : ChangeSpec := { name := "helloGets", fn := fun _ => fun
  | [d] => { results := [.lit (.bool false)], args := [d] }
  | _ => none }
def HelloGetsWrongFalsely : Prop := helloGetsRow.holds Try.pinned (OpenSpec.ofChange helloGetsWrong)

/- THE SECOND FORM. 'bulk': how many values and letters a reading holds, each counted each time it is reached (what is shared counts as often as it is met; a slice's spare places count too). A statement '..UptoSaid' is the law's where the arguments, and the package variables that the reading takes, are together of bulk at most 1048576: NARROWER than '..Said'. Prove '..Said' where nothing that the law and all that it calls make is longer than what came in: it says more and counts as full. Else prove '..UptoSaid'. A law counts once. -/
mutual
def uptoBulk {H : Type} : DataW H → Nat
  | .lit (.string bytes) => bytes.length + 1
  | .lit _ => 1
  | .nil => 1
  | .ptr d => uptoBulk d + 1
  | .slice elems spare => uptoBulkAll elems + uptoBulkAll spare + 1
  | .agg parts => uptoBulkAll parts + 1
  | .iface _ d => uptoBulk d + 1
  | .map entries => uptoBulkEntries entries + 1
  | .held _ => 1
def uptoBulkAll {H : Type} : List (DataW H) → Nat
  | [] => 0
  | d :: r => uptoBulk d + uptoBulkAll r
def uptoBulkEntries {H : Type} : List (Lit × DataW H) → Nat
  | [] => 0
  | x :: r => uptoBulkEntry x + uptoBulkEntries r
def uptoBulkEntry {H : Type} : Lit × DataW H → Nat
  | (.string bytes, d) => bytes.length + uptoBulk d + 1
  | (_, d) => uptoBulk d + 1
 end
def uptoSmall : (H : Type) → List (DataW H) → Bool := fun _ ds => decide (uptoBulkAll ds ≤ 1048576)
def OpenSpec.upto (s : _root_.Go.ChangeSpec) : _root_.Go.OpenSpec := { _root_.Go.OpenSpec.ofChange s with cond := some uptoSmall }

/-- 'hatchwaylaw02.FixedOrder', WHERE WHAT IT READS IS OF BULK AT MOST 1048576: true; the input reads as it did. -/
def fixedOrderUptoRow : OpenClaim := { program := "yteoibgpkimlahaa", sum := "6d401d104ccb002e7b6dc6c9256883fcf19a413ca521a2ea68894448d43ec890", func := "hatchway/hatchwaylaw02.FixedOrder", spec := "fixedOrder", unfollowed := true, recurses := true, apart := false, narrowed := true }
def FixedOrderUptoSaid : Prop := fixedOrderUptoRow.holds Try.pinned (OpenSpec.upto fixedOrderSpec)

/-- 'hatchwaylaw02.FixedPuts', WHERE WHAT IT READS IS OF BULK AT MOST 1048576: true; the input reads as it did. -/
def fixedPutsUptoRow : OpenClaim := { program := "yteoibgpkimlahaa", sum := "6d401d104ccb002e7b6dc6c9256883fcf19a413ca521a2ea68894448d43ec890", func := "hatchway/hatchwaylaw02.FixedPuts", spec := "fixedPuts", unfollowed := true, recurses := true, apart := false, narrowed := true }
def FixedPutsUptoSaid : Prop := fixedPutsUptoRow.holds Try.pinned (OpenSpec.upto fixedPutsSpec)

/-- 'hatchwaylaw02.FixedGets', WHERE WHAT IT READS IS OF BULK AT MOST 1048576: true; the input reads as it did. -/
def fixedGetsUptoRow : OpenClaim := { program := "yteoibgpkimlahaa", sum := "6d401d104ccb002e7b6dc6c9256883fcf19a413ca521a2ea68894448d43ec890", func := "hatchway/hatchwaylaw02.FixedGets", spec := "fixedGets", unfollowed := true, recurses := true, apart := false, narrowed := true }
def FixedGetsUptoSaid : Prop := fixedGetsUptoRow.holds Try.pinned (OpenSpec.upto fixedGetsSpec)

/-- 'hatchwaylaw32.HelloAgrees', WHERE WHAT IT READS IS OF BULK AT MOST 1048576: true; the input reads as it did. -/
def helloAgreesUptoRow : OpenClaim := { program := "yteoibgpkimlahaa", sum := "6d401d104ccb002e7b6dc6c9256883fcf19a413ca521a2ea68894448d43ec890", func := "hatchway/hatchwaylaw32.HelloAgrees", spec := "helloAgrees", inPlace := ["internal/bytealg.abigen_runtime_cmpstring"], unfollowed := true, recurses := true, apart := false, narrowed := true }
def HelloAgreesUptoSaid : Prop := helloAgreesUptoRow.holds Try.pinned (OpenSpec.upto helloAgreesSpec)

/-- 'hatchwaylaw10.WalkItems', WHERE WHAT IT READS IS OF BULK AT MOST 1048576: true; the input reads as it did. -/
def walkItemsUptoRow : OpenClaim := { program := "yteoibgpkimlahaa", sum := "6d401d104ccb002e7b6dc6c9256883fcf19a413ca521a2ea68894448d43ec890", func := "hatchway/hatchwaylaw10.WalkItems", spec := "walkItems", inPlace := ["internal/abi.NoEscape"], unfollowed := true, recurses := true, loops := true, apart := false, narrowed := true }
def WalkItemsUptoSaid : Prop := walkItemsUptoRow.holds Try.pinned (OpenSpec.upto walkItemsSpec)

/-- 'hatchwaylaw10.WalkBuilds', WHERE WHAT IT READS IS OF BULK AT MOST 1048576: true; the input reads as it did. -/
def walkBuildsUptoRow : OpenClaim := { program := "yteoibgpkimlahaa", sum := "6d401d104ccb002e7b6dc6c9256883fcf19a413ca521a2ea68894448d43ec890", func := "hatchway/hatchwaylaw10.WalkBuilds", spec := "walkBuilds", inPlace := ["internal/abi.NoEscape"], unfollowed := true, recurses := true, apart := false, narrowed := true }
def WalkBuildsUptoSaid : Prop := walkBuildsUptoRow.holds Try.pinned (OpenSpec.upto walkBuildsSpec)

/-- 'hatchwaylaw09.RlpCaps', WHERE WHAT IT READS IS OF BULK AT MOST 1048576: true; the input reads as it did. -/
def rlpCapsUptoRow : OpenClaim := { program := "yteoibgpkimlahaa", sum := "6d401d104ccb002e7b6dc6c9256883fcf19a413ca521a2ea68894448d43ec890", func := "hatchway/hatchwaylaw09.RlpCaps", spec := "rlpCaps", inPlace := ["internal/abi.NoEscape"], unfollowed := true, recurses := true, loops := true, apart := false, narrowed := true }
def RlpCapsUptoSaid : Prop := rlpCapsUptoRow.holds Try.pinned (OpenSpec.upto rlpCapsSpec)

/-- 'hatchwaylaw09.RlpCuts', WHERE WHAT IT READS IS OF BULK AT MOST 1048576: true; the input reads as it did. -/
def rlpCutsUptoRow : OpenClaim := { program := "yteoibgpkimlahaa", sum := "6d401d104ccb002e7b6dc6c9256883fcf19a413ca521a2ea68894448d43ec890", func := "hatchway/hatchwaylaw09.RlpCuts", spec := "rlpCuts", inPlace := ["internal/abi.NoEscape"], unfollowed := true, recurses := true, loops := true, apart := false, narrowed := true }
def RlpCutsUptoSaid : Prop := rlpCutsUptoRow.holds Try.pinned (OpenSpec.upto rlpCutsSpec)

/-- 'hatchwaylaw09.RlpPuts', WHERE WHAT IT READS IS OF BULK AT MOST 1048576: true; the input reads as it did. -/
def rlpPutsUptoRow : OpenClaim := { program := "yteoibgpkimlahaa", sum := "6d401d104ccb002e7b6dc6c9256883fcf19a413ca521a2ea68894448d43ec890", func := "hatchway/hatchwaylaw09.RlpPuts", spec := "rlpPuts", inPlace := ["internal/abi.NoEscape"], unfollowed := true, recurses := true, loops := true, apart := false, narrowed := true }
def RlpPutsUptoSaid : Prop := rlpPutsUptoRow.holds Try.pinned (OpenSpec.upto rlpPutsSpec)

/-- 'hatchwaylaw32.HelloPuts', WHERE WHAT IT READS IS OF BULK AT MOST 1048576: true; the input reads as it did. -/
def helloPutsUptoRow : OpenClaim := { program := "yteoibgpkimlahaa", sum := "6d401d104ccb002e7b6dc6c9256883fcf19a413ca521a2ea68894448d43ec890", func := "hatchway/hatchwaylaw32.HelloPuts", spec := "helloPuts", inPlace := ["internal/bytealg.abigen_runtime_cmpstring", "internal/abi.NoEscape"], unfollowed := true, recurses := true, apart := false, narrowed := true }
def HelloPutsUptoSaid : Prop := helloPutsUptoRow.holds Try.pinned (OpenSpec.upto helloPutsSpec)

/-- 'hatchwaylaw32.HelloGets', WHERE WHAT IT READS IS OF BULK AT MOST 1048576: true; the input reads as it did. -/
def helloGetsUptoRow : OpenClaim := { program := "yteoibgpkimlahaa", sum := "6d401d104ccb002e7b6dc6c9256883fcf19a413ca521a2ea68894448d43ec890", func := "hatchway/hatchwaylaw32.HelloGets", spec := "helloGets", inPlace := ["internal/bytealg.abigen_runtime_cmpstring", "internal/abi.NoEscape"], unfollowed := true, recurses := true, apart := false, narrowed := true }
def HelloGetsUptoSaid : Prop := helloGetsUptoRow.holds Try.pinned (OpenSpec.upto helloGetsSpec)

end Rows
end Go.Proofs.Yteoibgpkimlahaa
