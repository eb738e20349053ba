/-
  No cell of these rows narrows 'for every input' (looked for: loops, veiled, ifaces, maps, wideKeys, modest, calm, conditions, laid).
  DERIVED. THE GIVEN ROWS OF THIS SEAT. 11 by the template 'for every input the law returns true; each argument reads behind the call as it read before'; 0 by the template 'total and deterministic' (their statements: YtjeelghnmkefcaaGreatTotals.lean).
  GIVEN WITH THE SEED: the statements are not yours to turn. If you find one false, say at which input.
  Laid BY PROGRAM, IN A SANDBOX (cutbox-rows.mjs): the forced cells as the released guide's own fill.sh prints them over the translation 115aeb2e98a99c10… (all of the seat's roots in one cut). By AI agents, Wed Nov 11 2026. No macro, syntax, notation, axiom, sorry.
-/
import Derived.Test.YtjeelghnmkefcaaGreatChecked
import GoSem.Claim
import GoSem.ClaimJoined
import GoSem.ClaimMapViews
import Derived.JoinedTies
import Derived.KernelRfl
namespace Go.Proofs.YtjeelghnmkefcaaGreat
/- THE CELL 'sum', in the pinned program and in every row, IS THE sha256 OF THE DUMP (.gsa) THAT YtjeelghnmkefcaaGreatProg.lean LOADS. Nothing in Lean hashes anything: it is a label: what it is worth is what the hold of that sum in a sandbox is worth. -/
noncomputable def Tryz.pinned : Pinned := { name := "ytjeelghnmkefcaagreat", sum := "115aeb2e98a99c1073b1758f46539b465506cadd8cb85967a92d8ff7e0874022", checked := Tryz.checked }
namespace Rows
def none {H : Type} : Left H := { results := [], args := [] }

/-- 'vellumlaw7.NodeKeeps': WHATEVER THE INPUT: true; the input reads as it did. -/
def nodeKeepsSpec : ChangeSpec := { name := "nodeKeeps", fn := fun _ => fun
  | [d1, d2] => { results := [.lit (.bool true)], args := [d1, d2] }
  | _ => none }
def nodeKeepsRow : OpenClaim := { program := "ytjeelghnmkefcaagreat", sum := "115aeb2e98a99c1073b1758f46539b465506cadd8cb85967a92d8ff7e0874022", func := "vellum/vellumlaw7.NodeKeeps", spec := "nodeKeeps", unfollowed := true, recurses := true, apart := false }
def NodeKeepsSaid : Prop := nodeKeepsRow.holds Tryz.pinned (OpenSpec.ofChange nodeKeepsSpec)

/-- ITS FALSE NEIGHBOUR: 'it returns false'. Refute it at one input. -/
def nodeKeepsWrong : ChangeSpec := { name := "nodeKeeps", fn := fun _ => fun
  | [d1, d2] => { results := [.lit (.bool false)], args := [d1, d2] }
  | _ => none }
def NodeKeepsWrongFalsely : Prop := nodeKeepsRow.holds Tryz.pinned (OpenSpec.ofChange nodeKeepsWrong)

/-- 'vellumlaw7.NodeMakes': WHATEVER THE INPUT: true; the input reads as it did. -/
def nodeMakesSpec : ChangeSpec := { name := "nodeMakes", fn := fun _ => fun
  | [d1, d2] => { results := [.lit (.bool true)], args := [d1, d2] }
  | _ => none }
def nodeMakesRow : OpenClaim := { program := "ytjeelghnmkefcaagreat", sum := "115aeb2e98a99c1073b1758f46539b465506cadd8cb85967a92d8ff7e0874022", func := "vellum/vellumlaw7.NodeMakes", spec := "nodeMakes", unfollowed := true, recurses := true, apart := false }
def NodeMakesSaid : Prop := nodeMakesRow.holds Tryz.pinned (OpenSpec.ofChange nodeMakesSpec)

/-- ITS FALSE NEIGHBOUR: 'it returns false'. Refute it at one input. -/
def nodeMakesWrong : ChangeSpec := { name := "nodeMakes", fn := fun _ => fun
  | [d1, d2] => { results := [.lit (.bool false)], args := [d1, d2] }
  | _ => none }
def NodeMakesWrongFalsely : Prop := nodeMakesRow.holds Tryz.pinned (OpenSpec.ofChange nodeMakesWrong)

/-- 'vellumlaw7.NodeLoads': WHATEVER THE INPUT: true; the input reads as it did. -/
def nodeLoadsSpec : ChangeSpec := { name := "nodeLoads", fn := fun _ => fun
  | [d1, d2] => { results := [.lit (.bool true)], args := [d1, d2] }
  | _ => none }
def nodeLoadsRow : OpenClaim := { program := "ytjeelghnmkefcaagreat", sum := "115aeb2e98a99c1073b1758f46539b465506cadd8cb85967a92d8ff7e0874022", func := "vellum/vellumlaw7.NodeLoads", spec := "nodeLoads", unfollowed := true, recurses := true, apart := false }
def NodeLoadsSaid : Prop := nodeLoadsRow.holds Tryz.pinned (OpenSpec.ofChange nodeLoadsSpec)

/-- ITS FALSE NEIGHBOUR: 'it returns false'. Refute it at one input. -/
def nodeLoadsWrong : ChangeSpec := { name := "nodeLoads", fn := fun _ => fun
  | [d1, d2] => { results := [.lit (.bool false)], args := [d1, d2] }
  | _ => none }
def NodeLoadsWrongFalsely : Prop := nodeLoadsRow.holds Tryz.pinned (OpenSpec.ofChange nodeLoadsWrong)

/-- 'vellumlaw7.NodeSaves': WHATEVER THE INPUT: true; the input reads as it did. -/
def nodeSavesSpec : ChangeSpec := { name := "nodeSaves", fn := fun _ => fun
  | [d1, d2] => { results := [.lit (.bool true)], args := [d1, d2] }
  | _ => none }
def nodeSavesRow : OpenClaim := { program := "ytjeelghnmkefcaagreat", sum := "115aeb2e98a99c1073b1758f46539b465506cadd8cb85967a92d8ff7e0874022", func := "vellum/vellumlaw7.NodeSaves", spec := "nodeSaves", unfollowed := true, recurses := true, apart := false }
def NodeSavesSaid : Prop := nodeSavesRow.holds Tryz.pinned (OpenSpec.ofChange nodeSavesSpec)

/-- ITS FALSE NEIGHBOUR: 'it returns false'. Refute it at one input. -/
def nodeSavesWrong : ChangeSpec := { name := "nodeSaves", fn := fun _ => fun
  | [d1, d2] => { results := [.lit (.bool false)], args := [d1, d2] }
  | _ => none }
def NodeSavesWrongFalsely : Prop := nodeSavesRow.holds Tryz.pinned (OpenSpec.ofChange nodeSavesWrong)

/-- 'vellumlaw7.NodeFrees': WHATEVER THE INPUT: true; the input reads as it did. -/
def nodeFreesSpec : ChangeSpec := { name := "nodeFrees", fn := fun _ => fun
  | [d1, d2] => { results := [.lit (.bool true)], args := [d1, d2] }
  | _ => none }
def nodeFreesRow : OpenClaim := { program := "ytjeelghnmkefcaagreat", sum := "115aeb2e98a99c1073b1758f46539b465506cadd8cb85967a92d8ff7e0874022", func := "vellum/vellumlaw7.NodeFrees", spec := "nodeFrees", unfollowed := true, recurses := true, apart := false }
def NodeFreesSaid : Prop := nodeFreesRow.holds Tryz.pinned (OpenSpec.ofChange nodeFreesSpec)

/-- ITS FALSE NEIGHBOUR: 'it returns false'. Refute it at one input. -/
def nodeFreesWrong : ChangeSpec := { name := "nodeFrees", fn := fun _ => fun
  | [d1, d2] => { results := [.lit (.bool false)], args := [d1, d2] }
  | _ => none }
def NodeFreesWrongFalsely : Prop := nodeFreesRow.holds Tryz.pinned (OpenSpec.ofChange nodeFreesWrong)

/-- 'vellumlaw7.NodeAlls': WHATEVER THE INPUT: true; the input reads as it did. -/
def nodeAllsSpec : ChangeSpec := { name := "nodeAlls", fn := fun _ => fun
  | [d1, d2] => { results := [.lit (.bool true)], args := [d1, d2] }
  | _ => none }
def nodeAllsRow : OpenClaim := { program := "ytjeelghnmkefcaagreat", sum := "115aeb2e98a99c1073b1758f46539b465506cadd8cb85967a92d8ff7e0874022", func := "vellum/vellumlaw7.NodeAlls", spec := "nodeAlls", unfollowed := true, recurses := true, apart := false }
def NodeAllsSaid : Prop := nodeAllsRow.holds Tryz.pinned (OpenSpec.ofChange nodeAllsSpec)

/-- ITS FALSE NEIGHBOUR: 'it returns false'. Refute it at one input. -/
def nodeAllsWrong : ChangeSpec := { name := "nodeAlls", fn := fun _ => fun
  | [d1, d2] => { results := [.lit (.bool false)], args := [d1, d2] }
  | _ => none }
def NodeAllsWrongFalsely : Prop := nodeAllsRow.holds Tryz.pinned (OpenSpec.ofChange nodeAllsWrong)

/-- 'vellumlaw7.NodePuts': WHATEVER THE INPUT: true; the input reads as it did. -/
def nodePutsSpec : ChangeSpec := { name := "nodePuts", fn := fun _ => fun
  | [d1, d2] => { results := [.lit (.bool true)], args := [d1, d2] }
  | _ => none }
def nodePutsRow : OpenClaim := { program := "ytjeelghnmkefcaagreat", sum := "115aeb2e98a99c1073b1758f46539b465506cadd8cb85967a92d8ff7e0874022", func := "vellum/vellumlaw7.NodePuts", spec := "nodePuts", unfollowed := true, recurses := true, apart := false }
def NodePutsSaid : Prop := nodePutsRow.holds Tryz.pinned (OpenSpec.ofChange nodePutsSpec)

/-- ITS FALSE NEIGHBOUR: 'it returns false'. Refute it at one input. -/
def nodePutsWrong : ChangeSpec := { name := "nodePuts", fn := fun _ => fun
  | [d1, d2] => { results := [.lit (.bool false)], args := [d1, d2] }
  | _ => none }
def NodePutsWrongFalsely : Prop := nodePutsRow.holds Tryz.pinned (OpenSpec.ofChange nodePutsWrong)

/-- 'vellumlaw7.NodeEvery': WHATEVER THE INPUT: true; the input reads as it did. -/
def nodeEverySpec : ChangeSpec := { name := "nodeEvery", fn := fun _ => fun
  | [d1, d2] => { results := [.lit (.bool true)], args := [d1, d2] }
  | _ => none }
def nodeEveryRow : OpenClaim := { program := "ytjeelghnmkefcaagreat", sum := "115aeb2e98a99c1073b1758f46539b465506cadd8cb85967a92d8ff7e0874022", func := "vellum/vellumlaw7.NodeEvery", spec := "nodeEvery", unfollowed := true, recurses := true, apart := false }
def NodeEverySaid : Prop := nodeEveryRow.holds Tryz.pinned (OpenSpec.ofChange nodeEverySpec)

/-- ITS FALSE NEIGHBOUR: 'it returns false'. Refute it at one input. -/
def nodeEveryWrong : ChangeSpec := { name := "nodeEvery", fn := fun _ => fun
  | [d1, d2] => { results := [.lit (.bool false)], args := [d1, d2] }
  | _ => none }
def NodeEveryWrongFalsely : Prop := nodeEveryRow.holds Tryz.pinned (OpenSpec.ofChange nodeEveryWrong)

/-- 'vellumlaw7.NodeApart': WHATEVER THE INPUT: true; the input reads as it did. -/
def nodeApartSpec : ChangeSpec := { name := "nodeApart", fn := fun _ => fun
  | [d1, d2, d3, d4] => { results := [.lit (.bool true)], args := [d1, d2, d3, d4] }
  | _ => none }
def nodeApartRow : OpenClaim := { program := "ytjeelghnmkefcaagreat", sum := "115aeb2e98a99c1073b1758f46539b465506cadd8cb85967a92d8ff7e0874022", func := "vellum/vellumlaw7.NodeApart", spec := "nodeApart", unfollowed := true, recurses := true, apart := false }
def NodeApartSaid : Prop := nodeApartRow.holds Tryz.pinned (OpenSpec.ofChange nodeApartSpec)

/-- ITS FALSE NEIGHBOUR: 'it returns false'. Refute it at one input. -/
def nodeApartWrong : ChangeSpec := { name := "nodeApart", fn := fun _ => fun
  | [d1, d2, d3, d4] => { results := [.lit (.bool false)], args := [d1, d2, d3, d4] }
  | _ => none }
def NodeApartWrongFalsely : Prop := nodeApartRow.holds Tryz.pinned (OpenSpec.ofChange nodeApartWrong)

/-- 'vellumlaw7.NodeBook': WHATEVER THE INPUT: true; the input reads as it did. -/
def nodeBookSpec : ChangeSpec := { name := "nodeBook", fn := fun _ => fun
  | [d1, d2] => { results := [.lit (.bool true)], args := [d1, d2] }
  | _ => none }
def nodeBookRow : OpenClaim := { program := "ytjeelghnmkefcaagreat", sum := "115aeb2e98a99c1073b1758f46539b465506cadd8cb85967a92d8ff7e0874022", func := "vellum/vellumlaw7.NodeBook", spec := "nodeBook", unfollowed := true, recurses := true, apart := false }
def NodeBookSaid : Prop := nodeBookRow.holds Tryz.pinned (OpenSpec.ofChange nodeBookSpec)

/-- ITS FALSE NEIGHBOUR: 'it returns false'. Refute it at one input. -/
def nodeBookWrong : ChangeSpec := { name := "nodeBook", fn := fun _ => fun
  | [d1, d2] => { results := [.lit (.bool false)], args := [d1, d2] }
  | _ => none }
def NodeBookWrongFalsely : Prop := nodeBookRow.holds Tryz.pinned (OpenSpec.ofChange nodeBookWrong)

/-- 'vellumlaw7.NodeLasts': WHATEVER THE INPUT: true; the input reads as it did. -/
def nodeLastsSpec : ChangeSpec := { name := "nodeLasts", fn := fun _ => fun
  | [d1, d2, d3] => { results := [.lit (.bool true)], args := [d1, d2, d3] }
  | _ => none }
def nodeLastsRow : OpenClaim := { program := "ytjeelghnmkefcaagreat", sum := "115aeb2e98a99c1073b1758f46539b465506cadd8cb85967a92d8ff7e0874022", func := "vellum/vellumlaw7.NodeLasts", spec := "nodeLasts", unfollowed := true, recurses := true, apart := false }
def NodeLastsSaid : Prop := nodeLastsRow.holds Tryz.pinned (OpenSpec.ofChange nodeLastsSpec)

/-- ITS FALSE NEIGHBOUR: 'it returns false'. Refute it at one input. -/
def nodeLastsWrong : ChangeSpec := { name := "nodeLasts", fn := fun _ => fun
  | [d1, d2, d3] => { results := [.lit (.bool false)], args := [d1, d2, d3] }
  | _ => none }
def NodeLastsWrongFalsely : Prop := nodeLastsRow.holds Tryz.pinned (OpenSpec.ofChange nodeLastsWrong)

/- THE SECOND FORM. 'bulk': how many values and letters a reading holds, each counted each time it is reached (what is shared counts as often as it is met; a slice's spare places count too). A statement '..UptoSaid' is the law's where the arguments, and the package variables that the reading takes, are together of bulk at most 1048576: NARROWER than '..Said'. Prove '..Said' where nothing that the law and all that it calls make is longer than what came in: it says more and counts as full. Else prove '..UptoSaid'. A law counts once. -/
mutual
def uptoBulk {H : Type} : DataW H → Nat
  | .lit (.string bytes) => bytes.length + 1
  | .lit _ => 1
  | .nil => 1
  | .ptr d => uptoBulk d + 1
  | .slice elems spare => uptoBulkAll elems + uptoBulkAll spare + 1
  | .agg parts => uptoBulkAll parts + 1
  | .iface _ d => uptoBulk d + 1
  | .map entries => uptoBulkEntries entries + 1
  | .held _ => 1
def uptoBulkAll {H : Type} : List (DataW H) → Nat
  | [] => 0
  | d :: r => uptoBulk d + uptoBulkAll r
def uptoBulkEntries {H : Type} : List (Lit × DataW H) → Nat
  | [] => 0
  | x :: r => uptoBulkEntry x + uptoBulkEntries r
def uptoBulkEntry {H : Type} : Lit × DataW H → Nat
  | (.string bytes, d) => bytes.length + uptoBulk d + 1
  | (_, d) => uptoBulk d + 1
 end
def uptoSmall : (H : Type) → List (DataW H) → Bool := fun _ ds => decide (uptoBulkAll ds ≤ 1048576)
def OpenSpec.upto (s : _root_.Go.ChangeSpec) : _root_.Go.OpenSpec := { _root_.Go.OpenSpec.ofChange s with cond := some uptoSmall }

/-- 'vellumlaw7.NodeKeeps', WHERE WHAT IT READS IS OF BULK AT MOST 1048576: true; the input reads as it did. -/
def nodeKeepsUptoRow : OpenClaim := { program := "ytjeelghnmkefcaagreat", sum := "115aeb2e98a99c1073b1758f46539b465506cadd8cb85967a92d8ff7e0874022", func := "vellum/vellumlaw7.NodeKeeps", spec := "nodeKeeps", unfollowed := true, recurses := true, apart := false, narrowed := true }
def NodeKeepsUptoSaid : Prop := nodeKeepsUptoRow.holds Tryz.pinned (OpenSpec.upto nodeKeepsSpec)

/-- 'vellumlaw7.NodeMakes', WHERE WHAT IT READS IS OF BULK AT MOST 1048576: true; the input reads as it did. -/
def nodeMakesUptoRow : OpenClaim := { program := "ytjeelghnmkefcaagreat", sum := "115aeb2e98a99c1073b1758f46539b465506cadd8cb85967a92d8ff7e0874022", func := "vellum/vellumlaw7.NodeMakes", spec := "nodeMakes", unfollowed := true, recurses := true, apart := false, narrowed := true }
def NodeMakesUptoSaid : Prop := nodeMakesUptoRow.holds Tryz.pinned (OpenSpec.upto nodeMakesSpec)

/-- 'vellumlaw7.NodeLoads', WHERE WHAT IT READS IS OF BULK AT MOST 1048576: true; the input reads as it did. -/
def nodeLoadsUptoRow : OpenClaim := { program := "ytjeelghnmkefcaagreat", sum := "115aeb2e98a99c1073b1758f46539b465506cadd8cb85967a92d8ff7e0874022", func := "vellum/vellumlaw7.NodeLoads", spec := "nodeLoads", unfollowed := true, recurses := true, apart := false, narrowed := true }
def NodeLoadsUptoSaid : Prop := nodeLoadsUptoRow.holds Tryz.pinned (OpenSpec.upto nodeLoadsSpec)

/-- 'vellumlaw7.NodeSaves', WHERE WHAT IT READS IS OF BULK AT MOST 1048576: true; the input reads as it did. -/
def nodeSavesUptoRow : OpenClaim := { program := "ytjeelghnmkefcaagreat", sum := "115aeb2e98a99c1073b1758f46539b465506cadd8cb85967a92d8ff7e0874022", func := "vellum/vellumlaw7.NodeSaves", spec := "nodeSaves", unfollowed := true, recurses := true, apart := false, narrowed := true }
def NodeSavesUptoSaid : Prop := nodeSavesUptoRow.holds Tryz.pinned (OpenSpec.upto nodeSavesSpec)

/-- 'vellumlaw7.NodeFrees', WHERE WHAT IT READS IS OF BULK AT MOST 1048576: true; the input reads as it did. -/
def nodeFreesUptoRow : OpenClaim := { program := "ytjeelghnmkefcaagreat", sum := "115aeb2e98a99c1073b1758f46539b465506cadd8cb85967a92d8ff7e0874022", func := "vellum/vellumlaw7.NodeFrees", spec := "nodeFrees", unfollowed := true, recurses := true, apart := false, narrowed := true }
def NodeFreesUptoSaid : Prop := nodeFreesUptoRow.holds Tryz.pinned (OpenSpec.upto nodeFreesSpec)

/-- 'vellumlaw7.NodeAlls', WHERE WHAT IT READS IS OF BULK AT MOST 1048576: true; the input reads as it did. -/
def nodeAllsUptoRow : OpenClaim := { program := "ytjeelghnmkefcaagreat", sum := "115aeb2e98a99c1073b1758f46539b465506cadd8cb85967a92d8ff7e0874022", func := "vellum/vellumlaw7.NodeAlls", spec := "nodeAlls", unfollowed := true, recurses := true, apart := false, narrowed := true }
def NodeAllsUptoSaid : Prop := nodeAllsUptoRow.holds Tryz.pinned (OpenSpec.upto nodeAllsSpec)

/-- 'vellumlaw7.NodePuts', WHERE WHAT IT READS IS OF BULK AT MOST 1048576: true; the input reads as it did. -/
def nodePutsUptoRow : OpenClaim := { program := "ytjeelghnmkefcaagreat", sum := "115aeb2e98a99c1073b1758f46539b465506cadd8cb85967a92d8ff7e0874022", func := "vellum/vellumlaw7.NodePuts", spec := "nodePuts", unfollowed := true, recurses := true, apart := false, narrowed := true }
def NodePutsUptoSaid : Prop := nodePutsUptoRow.holds Tryz.pinned (OpenSpec.upto nodePutsSpec)

/-- 'vellumlaw7.NodeEvery', WHERE WHAT IT READS IS OF BULK AT MOST 1048576: true; the input reads as it did. -/
def nodeEveryUptoRow : OpenClaim := { program := "ytjeelghnmkefcaagreat", sum := "115aeb2e98a99c1073b1758f46539b465506cadd8cb85967a92d8ff7e0874022", func := "vellum/vellumlaw7.NodeEvery", spec := "nodeEvery", unfollowed := true, recurses := true, apart := false, narrowed := true }
def NodeEveryUptoSaid : Prop := nodeEveryUptoRow.holds Tryz.pinned (OpenSpec.upto nodeEverySpec)

/-- 'vellumlaw7.NodeApart', WHERE WHAT IT READS IS OF BULK AT MOST 1048576: true; the input reads as it did. -/
def nodeApartUptoRow : OpenClaim := { program := "ytjeelghnmkefcaagreat", sum := "115aeb2e98a99c1073b1758f46539b465506cadd8cb85967a92d8ff7e0874022", func := "vellum/vellumlaw7.NodeApart", spec := "nodeApart", unfollowed := true, recurses := true, apart := false, narrowed := true }
def NodeApartUptoSaid : Prop := nodeApartUptoRow.holds Tryz.pinned (OpenSpec.upto nodeApartSpec)

/-- 'vellumlaw7.NodeBook', WHERE WHAT IT READS IS OF BULK AT MOST 1048576: true; the input reads as it did. -/
def nodeBookUptoRow : OpenClaim := { program := "ytjeelghnmkefcaagreat", sum := "115aeb2e98a99c1073b1758f46539b465506cadd8cb85967a92d8ff7e0874022", func := "vellum/vellumlaw7.NodeBook", spec := "nodeBook", unfollowed := true, recurses := true, apart := false, narrowed := true }
def NodeBookUptoSaid : Prop := nodeBookUptoRow.holds Tryz.pinned (OpenSpec.upto nodeBookSpec)

/-- 'vellumlaw7.NodeLasts', WHERE WHAT IT READS IS OF BULK AT MOST 1048576: true; the input reads as it did. -/
def nodeLastsUptoRow : OpenClaim := { program := "ytjeelghnmkefcaagreat", sum := "115aeb2e98a99c1073b1758f46539b465506cadd8cb85967a92d8ff7e0874022", func := "vellum/vellumlaw7.NodeLasts", spec := "nodeLasts", unfollowed := true, recurses := true, apart := false, narrowed := true }
def NodeLastsUptoSaid : Prop := nodeLastsUptoRow.holds Tryz.pinned (OpenSpec.upto nodeLastsSpec)

end Rows
end Go.Proofs.YtjeelghnmkefcaaGreat
