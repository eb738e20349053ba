/-
  No cell of these rows narrows 'for every input' (looked for: loops, veiled, ifaces, maps, wideKeys, modest, calm, conditions, laid).
  DERIVED. THE GIVEN ROWS OF THIS SEAT. 11 by the template 'for every input the law returns true; each argument reads behind the call as it read before'; 0 by the template 'total and deterministic' (their statements: YtceodjgajkimnaaGreatTotals.lean).
  GIVEN WITH THE SEED: the statements are not yours to turn. If you find one false, say at which input.
  Laid BY PROGRAM, IN A SANDBOX (cutbox-rows.mjs): the forced cells as the released guide's own fill.sh prints them over the translation b68eee58e3052d24… (all of the seat's roots in one cut). By AI agents, Wed Nov 11 2026. No macro, syntax, notation, axiom, sorry.
-/
import Derived.Test.YtceodjgajkimnaaGreatChecked
import GoSem.Claim
import GoSem.ClaimJoined
import GoSem.ClaimMapViews
import Derived.JoinedTies
import Derived.KernelRfl
namespace Go.Proofs.YtceodjgajkimnaaGreat
/- THE CELL 'sum', in the pinned program and in every row, IS THE sha256 OF THE DUMP (.gsa) THAT YtceodjgajkimnaaGreatProg.lean LOADS. Nothing in Lean hashes anything: it is a label: what it is worth is what the hold of that sum in a sandbox is worth. -/
noncomputable def Tryz.pinned : Pinned := { name := "ytceodjgajkimnaagreat", sum := "b68eee58e3052d244a17f01ed02a5a8ad08acfe6e723aea522f5a9f5881ff25e", checked := Tryz.checked }
namespace Rows
def none {H : Type} : Left H := { results := [], args := [] }

/-- 'vellumlaw6.PoolFills': WHATEVER THE INPUT: true; the input reads as it did. -/
def poolFillsSpec : ChangeSpec := { name := "poolFills", fn := fun _ => fun
  | [d1, d2] => { results := [.lit (.bool true)], args := [d1, d2] }
  | _ => none }
def poolFillsRow : OpenClaim := { program := "ytceodjgajkimnaagreat", sum := "b68eee58e3052d244a17f01ed02a5a8ad08acfe6e723aea522f5a9f5881ff25e", func := "vellum/vellumlaw6.PoolFills", spec := "poolFills", unfollowed := true, recurses := true, apart := false }
def PoolFillsSaid : Prop := poolFillsRow.holds Tryz.pinned (OpenSpec.ofChange poolFillsSpec)

/-- ITS FALSE NEIGHBOUR: 'it returns false'. Refute it at one input. -/
def poolFillsWrong : ChangeSpec := { name := "poolFills", fn := fun _ => fun
  | [d1, d2] => { results := [.lit (.bool false)], args := [d1, d2] }
  | _ => none }
def PoolFillsWrongFalsely : Prop := poolFillsRow.holds Tryz.pinned (OpenSpec.ofChange poolFillsWrong)

/-- 'vellumlaw6.PoolApart': WHATEVER THE INPUT: true; the input reads as it did. -/
def poolApartSpec : ChangeSpec := { name := "poolApart", fn := fun _ => fun
  | [d1, d2] => { results := [.lit (.bool true)], args := [d1, d2] }
  | _ => none }
def poolApartRow : OpenClaim := { program := "ytceodjgajkimnaagreat", sum := "b68eee58e3052d244a17f01ed02a5a8ad08acfe6e723aea522f5a9f5881ff25e", func := "vellum/vellumlaw6.PoolApart", spec := "poolApart", unfollowed := true, recurses := true, apart := false }
def PoolApartSaid : Prop := poolApartRow.holds Tryz.pinned (OpenSpec.ofChange poolApartSpec)

/-- ITS FALSE NEIGHBOUR: 'it returns false'. Refute it at one input. -/
def poolApartWrong : ChangeSpec := { name := "poolApart", fn := fun _ => fun
  | [d1, d2] => { results := [.lit (.bool false)], args := [d1, d2] }
  | _ => none }
def PoolApartWrongFalsely : Prop := poolApartRow.holds Tryz.pinned (OpenSpec.ofChange poolApartWrong)

/-- 'vellumlaw6.PoolBack': WHATEVER THE INPUT: true; the input reads as it did. -/
def poolBackSpec : ChangeSpec := { name := "poolBack", fn := fun _ => fun
  | [d1, d2, d3, d4] => { results := [.lit (.bool true)], args := [d1, d2, d3, d4] }
  | _ => none }
def poolBackRow : OpenClaim := { program := "ytceodjgajkimnaagreat", sum := "b68eee58e3052d244a17f01ed02a5a8ad08acfe6e723aea522f5a9f5881ff25e", func := "vellum/vellumlaw6.PoolBack", spec := "poolBack", unfollowed := true, recurses := true, apart := false }
def PoolBackSaid : Prop := poolBackRow.holds Tryz.pinned (OpenSpec.ofChange poolBackSpec)

/-- ITS FALSE NEIGHBOUR: 'it returns false'. Refute it at one input. -/
def poolBackWrong : ChangeSpec := { name := "poolBack", fn := fun _ => fun
  | [d1, d2, d3, d4] => { results := [.lit (.bool false)], args := [d1, d2, d3, d4] }
  | _ => none }
def PoolBackWrongFalsely : Prop := poolBackRow.holds Tryz.pinned (OpenSpec.ofChange poolBackWrong)

/-- 'vellumlaw5.StoreOwn': WHATEVER THE INPUT: true; the input reads as it did. -/
def storeOwnSpec : ChangeSpec := { name := "storeOwn", fn := fun _ => fun
  | [d] => { results := [.lit (.bool true)], args := [d] }
  | _ => none }
def storeOwnRow : OpenClaim := { program := "ytceodjgajkimnaagreat", sum := "b68eee58e3052d244a17f01ed02a5a8ad08acfe6e723aea522f5a9f5881ff25e", func := "vellum/vellumlaw5.StoreOwn", spec := "storeOwn", unfollowed := true, recurses := true, apart := false }
def StoreOwnSaid : Prop := storeOwnRow.holds Tryz.pinned (OpenSpec.ofChange storeOwnSpec)

/-- ITS FALSE NEIGHBOUR: 'it returns false'. Refute it at one input. -/
def storeOwnWrong : ChangeSpec := { name := "storeOwn", fn := fun _ => fun
  | [d] => { results := [.lit (.bool false)], args := [d] }
  | _ => none }
def StoreOwnWrongFalsely : Prop := storeOwnRow.holds Tryz.pinned (OpenSpec.ofChange storeOwnWrong)

/-- 'vellumlaw6.PoolClears': WHATEVER THE INPUT: true; the input reads as it did. -/
def poolClearsSpec : ChangeSpec := { name := "poolClears", fn := fun _ => fun
  | [d1, d2, d3] => { results := [.lit (.bool true)], args := [d1, d2, d3] }
  | _ => none }
def poolClearsRow : OpenClaim := { program := "ytceodjgajkimnaagreat", sum := "b68eee58e3052d244a17f01ed02a5a8ad08acfe6e723aea522f5a9f5881ff25e", func := "vellum/vellumlaw6.PoolClears", spec := "poolClears", unfollowed := true, recurses := true, apart := false }
def PoolClearsSaid : Prop := poolClearsRow.holds Tryz.pinned (OpenSpec.ofChange poolClearsSpec)

/-- ITS FALSE NEIGHBOUR: 'it returns false'. Refute it at one input. -/
def poolClearsWrong : ChangeSpec := { name := "poolClears", fn := fun _ => fun
  | [d1, d2, d3] => { results := [.lit (.bool false)], args := [d1, d2, d3] }
  | _ => none }
def PoolClearsWrongFalsely : Prop := poolClearsRow.holds Tryz.pinned (OpenSpec.ofChange poolClearsWrong)

/-- 'vellumlaw6.PoolTakes': WHATEVER THE INPUT: true; the input reads as it did. -/
def poolTakesSpec : ChangeSpec := { name := "poolTakes", fn := fun _ => fun
  | [d1, d2, d3] => { results := [.lit (.bool true)], args := [d1, d2, d3] }
  | _ => none }
def poolTakesRow : OpenClaim := { program := "ytceodjgajkimnaagreat", sum := "b68eee58e3052d244a17f01ed02a5a8ad08acfe6e723aea522f5a9f5881ff25e", func := "vellum/vellumlaw6.PoolTakes", spec := "poolTakes", unfollowed := true, recurses := true, apart := false }
def PoolTakesSaid : Prop := poolTakesRow.holds Tryz.pinned (OpenSpec.ofChange poolTakesSpec)

/-- ITS FALSE NEIGHBOUR: 'it returns false'. Refute it at one input. -/
def poolTakesWrong : ChangeSpec := { name := "poolTakes", fn := fun _ => fun
  | [d1, d2, d3] => { results := [.lit (.bool false)], args := [d1, d2, d3] }
  | _ => none }
def PoolTakesWrongFalsely : Prop := poolTakesRow.holds Tryz.pinned (OpenSpec.ofChange poolTakesWrong)

/-- 'vellumlaw6.PoolDrops': WHATEVER THE INPUT: true; the input reads as it did. -/
def poolDropsSpec : ChangeSpec := { name := "poolDrops", fn := fun _ => fun
  | [d1, d2, d3] => { results := [.lit (.bool true)], args := [d1, d2, d3] }
  | _ => none }
def poolDropsRow : OpenClaim := { program := "ytceodjgajkimnaagreat", sum := "b68eee58e3052d244a17f01ed02a5a8ad08acfe6e723aea522f5a9f5881ff25e", func := "vellum/vellumlaw6.PoolDrops", spec := "poolDrops", unfollowed := true, recurses := true, apart := false }
def PoolDropsSaid : Prop := poolDropsRow.holds Tryz.pinned (OpenSpec.ofChange poolDropsSpec)

/-- ITS FALSE NEIGHBOUR: 'it returns false'. Refute it at one input. -/
def poolDropsWrong : ChangeSpec := { name := "poolDrops", fn := fun _ => fun
  | [d1, d2, d3] => { results := [.lit (.bool false)], args := [d1, d2, d3] }
  | _ => none }
def PoolDropsWrongFalsely : Prop := poolDropsRow.holds Tryz.pinned (OpenSpec.ofChange poolDropsWrong)

/-- 'vellumlaw6.PoolLefts': WHATEVER THE INPUT: true; the input reads as it did. -/
def poolLeftsSpec : ChangeSpec := { name := "poolLefts", fn := fun _ => fun
  | [d1, d2, d3] => { results := [.lit (.bool true)], args := [d1, d2, d3] }
  | _ => none }
def poolLeftsRow : OpenClaim := { program := "ytceodjgajkimnaagreat", sum := "b68eee58e3052d244a17f01ed02a5a8ad08acfe6e723aea522f5a9f5881ff25e", func := "vellum/vellumlaw6.PoolLefts", spec := "poolLefts", unfollowed := true, recurses := true, apart := false }
def PoolLeftsSaid : Prop := poolLeftsRow.holds Tryz.pinned (OpenSpec.ofChange poolLeftsSpec)

/-- ITS FALSE NEIGHBOUR: 'it returns false'. Refute it at one input. -/
def poolLeftsWrong : ChangeSpec := { name := "poolLefts", fn := fun _ => fun
  | [d1, d2, d3] => { results := [.lit (.bool false)], args := [d1, d2, d3] }
  | _ => none }
def PoolLeftsWrongFalsely : Prop := poolLeftsRow.holds Tryz.pinned (OpenSpec.ofChange poolLeftsWrong)

/-- 'vellumlaw6.PoolBudget': WHATEVER THE INPUT: true; the input reads as it did. -/
def poolBudgetSpec : ChangeSpec := { name := "poolBudget", fn := fun _ => fun
  | [d1, d2, d3] => { results := [.lit (.bool true)], args := [d1, d2, d3] }
  | _ => none }
def poolBudgetRow : OpenClaim := { program := "ytceodjgajkimnaagreat", sum := "b68eee58e3052d244a17f01ed02a5a8ad08acfe6e723aea522f5a9f5881ff25e", func := "vellum/vellumlaw6.PoolBudget", spec := "poolBudget", unfollowed := true, recurses := true, apart := false }
def PoolBudgetSaid : Prop := poolBudgetRow.holds Tryz.pinned (OpenSpec.ofChange poolBudgetSpec)

/-- ITS FALSE NEIGHBOUR: 'it returns false'. Refute it at one input. -/
def poolBudgetWrong : ChangeSpec := { name := "poolBudget", fn := fun _ => fun
  | [d1, d2, d3] => { results := [.lit (.bool false)], args := [d1, d2, d3] }
  | _ => none }
def PoolBudgetWrongFalsely : Prop := poolBudgetRow.holds Tryz.pinned (OpenSpec.ofChange poolBudgetWrong)

/-- 'vellumlaw6.PoolPlays': WHATEVER THE INPUT: true; the input reads as it did. -/
def poolPlaysSpec : ChangeSpec := { name := "poolPlays", fn := fun _ => fun
  | [d1, d2, d3] => { results := [.lit (.bool true)], args := [d1, d2, d3] }
  | _ => none }
def poolPlaysRow : OpenClaim := { program := "ytceodjgajkimnaagreat", sum := "b68eee58e3052d244a17f01ed02a5a8ad08acfe6e723aea522f5a9f5881ff25e", func := "vellum/vellumlaw6.PoolPlays", spec := "poolPlays", unfollowed := true, recurses := true, apart := false }
def PoolPlaysSaid : Prop := poolPlaysRow.holds Tryz.pinned (OpenSpec.ofChange poolPlaysSpec)

/-- ITS FALSE NEIGHBOUR: 'it returns false'. Refute it at one input. -/
def poolPlaysWrong : ChangeSpec := { name := "poolPlays", fn := fun _ => fun
  | [d1, d2, d3] => { results := [.lit (.bool false)], args := [d1, d2, d3] }
  | _ => none }
def PoolPlaysWrongFalsely : Prop := poolPlaysRow.holds Tryz.pinned (OpenSpec.ofChange poolPlaysWrong)

/-- 'vellumlaw6.PoolCut': WHATEVER THE INPUT: true; the input reads as it did. -/
def poolCutSpec : ChangeSpec := { name := "poolCut", fn := fun _ => fun
  | [d1, d2] => { results := [.lit (.bool true)], args := [d1, d2] }
  | _ => none }
def poolCutRow : OpenClaim := { program := "ytceodjgajkimnaagreat", sum := "b68eee58e3052d244a17f01ed02a5a8ad08acfe6e723aea522f5a9f5881ff25e", func := "vellum/vellumlaw6.PoolCut", spec := "poolCut", unfollowed := true, recurses := true, apart := false }
def PoolCutSaid : Prop := poolCutRow.holds Tryz.pinned (OpenSpec.ofChange poolCutSpec)

/-- ITS FALSE NEIGHBOUR: 'it returns false'. Refute it at one input. -/
def poolCutWrong : ChangeSpec := { name := "poolCut", fn := fun _ => fun
  | [d1, d2] => { results := [.lit (.bool false)], args := [d1, d2] }
  | _ => none }
def PoolCutWrongFalsely : Prop := poolCutRow.holds Tryz.pinned (OpenSpec.ofChange poolCutWrong)

/- THE SECOND FORM. 'bulk': how many values and letters a reading holds, each counted each time it is reached (what is shared counts as often as it is met; a slice's spare places count too). A statement '..UptoSaid' is the law's where the arguments, and the package variables that the reading takes, are together of bulk at most 1048576: NARROWER than '..Said'. Prove '..Said' where nothing that the law and all that it calls make is longer than what came in: it says more and counts as full. Else prove '..UptoSaid'. A law counts once. -/
mutual
def uptoBulk {H : Type} : DataW H → Nat
  | .lit (.string bytes) => bytes.length + 1
  | .lit _ => 1
  | .nil => 1
  | .ptr d => uptoBulk d + 1
  | .slice elems spare => uptoBulkAll elems + uptoBulkAll spare + 1
  | .agg parts => uptoBulkAll parts + 1
  | .iface _ d => uptoBulk d + 1
  | .map entries => uptoBulkEntries entries + 1
  | .held _ => 1
def uptoBulkAll {H : Type} : List (DataW H) → Nat
  | [] => 0
  | d :: r => uptoBulk d + uptoBulkAll r
def uptoBulkEntries {H : Type} : List (Lit × DataW H) → Nat
  | [] => 0
  | x :: r => uptoBulkEntry x + uptoBulkEntries r
def uptoBulkEntry {H : Type} : Lit × DataW H → Nat
  | (.string bytes, d) => bytes.length + uptoBulk d + 1
  | (_, d) => uptoBulk d + 1
 end
def uptoSmall : (H : Type) → List (DataW H) → Bool := fun _ ds => decide (uptoBulkAll ds ≤ 1048576)
def OpenSpec.upto (s : _root_.Go.ChangeSpec) : _root_.Go.OpenSpec := { _root_.Go.OpenSpec.ofChange s with cond := some uptoSmall }

/-- 'vellumlaw6.PoolFills', WHERE WHAT IT READS IS OF BULK AT MOST 1048576: true; the input reads as it did. -/
def poolFillsUptoRow : OpenClaim := { program := "ytceodjgajkimnaagreat", sum := "b68eee58e3052d244a17f01ed02a5a8ad08acfe6e723aea522f5a9f5881ff25e", func := "vellum/vellumlaw6.PoolFills", spec := "poolFills", unfollowed := true, recurses := true, apart := false, narrowed := true }
def PoolFillsUptoSaid : Prop := poolFillsUptoRow.holds Tryz.pinned (OpenSpec.upto poolFillsSpec)

/-- 'vellumlaw6.PoolApart', WHERE WHAT IT READS IS OF BULK AT MOST 1048576: true; the input reads as it did. -/
def poolApartUptoRow : OpenClaim := { program := "ytceodjgajkimnaagreat", sum := "b68eee58e3052d244a17f01ed02a5a8ad08acfe6e723aea522f5a9f5881ff25e", func := "vellum/vellumlaw6.PoolApart", spec := "poolApart", unfollowed := true, recurses := true, apart := false, narrowed := true }
def PoolApartUptoSaid : Prop := poolApartUptoRow.holds Tryz.pinned (OpenSpec.upto poolApartSpec)

/-- 'vellumlaw6.PoolBack', WHERE WHAT IT READS IS OF BULK AT MOST 1048576: true; the input reads as it did. -/
def poolBackUptoRow : OpenClaim := { program := "ytceodjgajkimnaagreat", sum := "b68eee58e3052d244a17f01ed02a5a8ad08acfe6e723aea522f5a9f5881ff25e", func := "vellum/vellumlaw6.PoolBack", spec := "poolBack", unfollowed := true, recurses := true, apart := false, narrowed := true }
def PoolBackUptoSaid : Prop := poolBackUptoRow.holds Tryz.pinned (OpenSpec.upto poolBackSpec)

/-- 'vellumlaw5.StoreOwn', WHERE WHAT IT READS IS OF BULK AT MOST 1048576: true; the input reads as it did. -/
def storeOwnUptoRow : OpenClaim := { program := "ytceodjgajkimnaagreat", sum := "b68eee58e3052d244a17f01ed02a5a8ad08acfe6e723aea522f5a9f5881ff25e", func := "vellum/vellumlaw5.StoreOwn", spec := "storeOwn", unfollowed := true, recurses := true, apart := false, narrowed := true }
def StoreOwnUptoSaid : Prop := storeOwnUptoRow.holds Tryz.pinned (OpenSpec.upto storeOwnSpec)

/-- 'vellumlaw6.PoolClears', WHERE WHAT IT READS IS OF BULK AT MOST 1048576: true; the input reads as it did. -/
def poolClearsUptoRow : OpenClaim := { program := "ytceodjgajkimnaagreat", sum := "b68eee58e3052d244a17f01ed02a5a8ad08acfe6e723aea522f5a9f5881ff25e", func := "vellum/vellumlaw6.PoolClears", spec := "poolClears", unfollowed := true, recurses := true, apart := false, narrowed := true }
def PoolClearsUptoSaid : Prop := poolClearsUptoRow.holds Tryz.pinned (OpenSpec.upto poolClearsSpec)

/-- 'vellumlaw6.PoolTakes', WHERE WHAT IT READS IS OF BULK AT MOST 1048576: true; the input reads as it did. -/
def poolTakesUptoRow : OpenClaim := { program := "ytceodjgajkimnaagreat", sum := "b68eee58e3052d244a17f01ed02a5a8ad08acfe6e723aea522f5a9f5881ff25e", func := "vellum/vellumlaw6.PoolTakes", spec := "poolTakes", unfollowed := true, recurses := true, apart := false, narrowed := true }
def PoolTakesUptoSaid : Prop := poolTakesUptoRow.holds Tryz.pinned (OpenSpec.upto poolTakesSpec)

/-- 'vellumlaw6.PoolDrops', WHERE WHAT IT READS IS OF BULK AT MOST 1048576: true; the input reads as it did. -/
def poolDropsUptoRow : OpenClaim := { program := "ytceodjgajkimnaagreat", sum := "b68eee58e3052d244a17f01ed02a5a8ad08acfe6e723aea522f5a9f5881ff25e", func := "vellum/vellumlaw6.PoolDrops", spec := "poolDrops", unfollowed := true, recurses := true, apart := false, narrowed := true }
def PoolDropsUptoSaid : Prop := poolDropsUptoRow.holds Tryz.pinned (OpenSpec.upto poolDropsSpec)

/-- 'vellumlaw6.PoolLefts', WHERE WHAT IT READS IS OF BULK AT MOST 1048576: true; the input reads as it did. -/
def poolLeftsUptoRow : OpenClaim := { program := "ytceodjgajkimnaagreat", sum := "b68eee58e3052d244a17f01ed02a5a8ad08acfe6e723aea522f5a9f5881ff25e", func := "vellum/vellumlaw6.PoolLefts", spec := "poolLefts", unfollowed := true, recurses := true, apart := false, narrowed := true }
def PoolLeftsUptoSaid : Prop := poolLeftsUptoRow.holds Tryz.pinned (OpenSpec.upto poolLeftsSpec)

/-- 'vellumlaw6.PoolBudget', WHERE WHAT IT READS IS OF BULK AT MOST 1048576: true; the input reads as it did. -/
def poolBudgetUptoRow : OpenClaim := { program := "ytceodjgajkimnaagreat", sum := "b68eee58e3052d244a17f01ed02a5a8ad08acfe6e723aea522f5a9f5881ff25e", func := "vellum/vellumlaw6.PoolBudget", spec := "poolBudget", unfollowed := true, recurses := true, apart := false, narrowed := true }
def PoolBudgetUptoSaid : Prop := poolBudgetUptoRow.holds Tryz.pinned (OpenSpec.upto poolBudgetSpec)

/-- 'vellumlaw6.PoolPlays', WHERE WHAT IT READS IS OF BULK AT MOST 1048576: true; the input reads as it did. -/
def poolPlaysUptoRow : OpenClaim := { program := "ytceodjgajkimnaagreat", sum := "b68eee58e3052d244a17f01ed02a5a8ad08acfe6e723aea522f5a9f5881ff25e", func := "vellum/vellumlaw6.PoolPlays", spec := "poolPlays", unfollowed := true, recurses := true, apart := false, narrowed := true }
def PoolPlaysUptoSaid : Prop := poolPlaysUptoRow.holds Tryz.pinned (OpenSpec.upto poolPlaysSpec)

/-- 'vellumlaw6.PoolCut', WHERE WHAT IT READS IS OF BULK AT MOST 1048576: true; the input reads as it did. -/
def poolCutUptoRow : OpenClaim := { program := "ytceodjgajkimnaagreat", sum := "b68eee58e3052d244a17f01ed02a5a8ad08acfe6e723aea522f5a9f5881ff25e", func := "vellum/vellumlaw6.PoolCut", spec := "poolCut", unfollowed := true, recurses := true, apart := false, narrowed := true }
def PoolCutUptoSaid : Prop := poolCutUptoRow.holds Tryz.pinned (OpenSpec.upto poolCutSpec)

end Rows
end Go.Proofs.YtceodjgajkimnaaGreat
