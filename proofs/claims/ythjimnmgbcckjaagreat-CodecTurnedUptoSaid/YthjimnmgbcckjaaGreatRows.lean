/-
  No cell of these rows narrows 'for every input' (looked for: loops, veiled, ifaces, maps, wideKeys, modest, calm, conditions, laid).
  DERIVED. THE GIVEN ROWS OF THIS SEAT. 6 by the template 'for every input the law returns true; each argument reads behind the call as it read before'; 0 by the template 'total and deterministic' (their statements: YthjimnmgbcckjaaGreatTotals.lean).
  GIVEN WITH THE SEED: the statements are not yours to turn. If you find one false, say at which input.
  Laid BY PROGRAM, IN A SANDBOX (cutbox-rows.mjs): the forced cells as the released guide's own fill.sh prints them over the translation 9dc5cf11817c0077… (all of the seat's roots in one cut). By AI agents, Wed Nov 11 2026. No macro, syntax, notation, axiom, sorry.
-/
import Derived.Test.YthjimnmgbcckjaaGreatChecked
import GoSem.Claim
import GoSem.ClaimJoined
import GoSem.ClaimMapViews
import Derived.JoinedTies
import Derived.KernelRfl
namespace Go.Proofs.YthjimnmgbcckjaaGreat
/- THE CELL 'sum', in the pinned program and in every row, IS THE sha256 OF THE DUMP (.gsa) THAT YthjimnmgbcckjaaGreatProg.lean LOADS. Nothing in Lean hashes anything: it is a label: what it is worth is what the hold of that sum in a sandbox is worth. -/
noncomputable def Tryz.pinned : Pinned := { name := "ythjimnmgbcckjaagreat", sum := "9dc5cf11817c007702dfebc131eb0f43ac9548ab073add6533d01ab099085ae8", checked := Tryz.checked }
namespace Rows
def none {H : Type} : Left H := { results := [], args := [] }

/-- 'inclinelaw12.CodecPuts': WHATEVER THE INPUT: true; the input reads as it did. -/
def codecPutsSpec : ChangeSpec := { name := "codecPuts", fn := fun _ => fun
  | [d] => { results := [.lit (.bool true)], args := [d] }
  | _ => none }
def codecPutsRow : OpenClaim := { program := "ythjimnmgbcckjaagreat", sum := "9dc5cf11817c007702dfebc131eb0f43ac9548ab073add6533d01ab099085ae8", func := "incline/inclinelaw12.CodecPuts", spec := "codecPuts", inPlace := ["math.Float64bits", "math.Float64frombits", "math.archFloor", "math.archTrunc"], unfollowed := true, recurses := true, named := ["math/bits.divideError", "math/bits.overflowError"], apart := false }
def CodecPutsSaid : Prop := codecPutsRow.holds Tryz.pinned (OpenSpec.ofChange codecPutsSpec)

/-- ITS FALSE NEIGHBOUR: 'it returns false'. Refute it at one input. -/
def codecPutsWrong : ChangeSpec := { name := "codecPuts", fn := fun _ => fun
  | [d] => { results := [.lit (.bool false)], args := [d] }
  | _ => none }
def CodecPutsWrongFalsely : Prop := codecPutsRow.holds Tryz.pinned (OpenSpec.ofChange codecPutsWrong)

/-- 'inclinelaw12.CodecBack': WHATEVER THE INPUT: true; the input reads as it did. -/
def codecBackSpec : ChangeSpec := { name := "codecBack", fn := fun _ => fun
  | [d] => { results := [.lit (.bool true)], args := [d] }
  | _ => none }
def codecBackRow : OpenClaim := { program := "ythjimnmgbcckjaagreat", sum := "9dc5cf11817c007702dfebc131eb0f43ac9548ab073add6533d01ab099085ae8", func := "incline/inclinelaw12.CodecBack", spec := "codecBack", inPlace := ["math.Float64bits", "math.Float64frombits", "math.archFloor", "math.archTrunc"], unfollowed := true, recurses := true, named := ["math/bits.divideError", "math/bits.overflowError"], apart := false }
def CodecBackSaid : Prop := codecBackRow.holds Tryz.pinned (OpenSpec.ofChange codecBackSpec)

/-- ITS FALSE NEIGHBOUR: 'it returns false'. Refute it at one input. -/
def codecBackWrong : ChangeSpec := { name := "codecBack", fn := fun _ => fun
  | [d] => { results := [.lit (.bool false)], args := [d] }
  | _ => none }
def CodecBackWrongFalsely : Prop := codecBackRow.holds Tryz.pinned (OpenSpec.ofChange codecBackWrong)

/-- 'inclinelaw12.CodecOnce': WHATEVER THE INPUT: true; the input reads as it did. -/
def codecOnceSpec : ChangeSpec := { name := "codecOnce", fn := fun _ => fun
  | [d] => { results := [.lit (.bool true)], args := [d] }
  | _ => none }
def codecOnceRow : OpenClaim := { program := "ythjimnmgbcckjaagreat", sum := "9dc5cf11817c007702dfebc131eb0f43ac9548ab073add6533d01ab099085ae8", func := "incline/inclinelaw12.CodecOnce", spec := "codecOnce", inPlace := ["math.Float64bits", "math.Float64frombits", "math.archFloor", "math.archTrunc"], unfollowed := true, recurses := true, named := ["math/bits.divideError", "math/bits.overflowError"], apart := false }
def CodecOnceSaid : Prop := codecOnceRow.holds Tryz.pinned (OpenSpec.ofChange codecOnceSpec)

/-- ITS FALSE NEIGHBOUR: 'it returns false'. Refute it at one input. -/
def codecOnceWrong : ChangeSpec := { name := "codecOnce", fn := fun _ => fun
  | [d] => { results := [.lit (.bool false)], args := [d] }
  | _ => none }
def CodecOnceWrongFalsely : Prop := codecOnceRow.holds Tryz.pinned (OpenSpec.ofChange codecOnceWrong)

/-- 'inclinelaw12.CodecCut': WHATEVER THE INPUT: true; the input reads as it did. -/
def codecCutSpec : ChangeSpec := { name := "codecCut", fn := fun _ => fun
  | [d1, d2, d3] => { results := [.lit (.bool true)], args := [d1, d2, d3] }
  | _ => none }
def codecCutRow : OpenClaim := { program := "ythjimnmgbcckjaagreat", sum := "9dc5cf11817c007702dfebc131eb0f43ac9548ab073add6533d01ab099085ae8", func := "incline/inclinelaw12.CodecCut", spec := "codecCut", inPlace := ["math.Float64bits", "math.Float64frombits", "math.archFloor", "math.archTrunc"], unfollowed := true, recurses := true, named := ["math/bits.divideError", "math/bits.overflowError"], apart := false }
def CodecCutSaid : Prop := codecCutRow.holds Tryz.pinned (OpenSpec.ofChange codecCutSpec)

/-- ITS FALSE NEIGHBOUR: 'it returns false'. Refute it at one input. -/
def codecCutWrong : ChangeSpec := { name := "codecCut", fn := fun _ => fun
  | [d1, d2, d3] => { results := [.lit (.bool false)], args := [d1, d2, d3] }
  | _ => none }
def CodecCutWrongFalsely : Prop := codecCutRow.holds Tryz.pinned (OpenSpec.ofChange codecCutWrong)

/-- 'inclinelaw12.CodecTurned': WHATEVER THE INPUT: true; the input reads as it did. -/
def codecTurnedSpec : ChangeSpec := { name := "codecTurned", fn := fun _ => fun
  | [d1, d2, d3] => { results := [.lit (.bool true)], args := [d1, d2, d3] }
  | _ => none }
def codecTurnedRow : OpenClaim := { program := "ythjimnmgbcckjaagreat", sum := "9dc5cf11817c007702dfebc131eb0f43ac9548ab073add6533d01ab099085ae8", func := "incline/inclinelaw12.CodecTurned", spec := "codecTurned", inPlace := ["math.Float64bits", "math.Float64frombits", "math.archFloor", "math.archTrunc"], unfollowed := true, recurses := true, named := ["math/bits.divideError", "math/bits.overflowError"], apart := false }
def CodecTurnedSaid : Prop := codecTurnedRow.holds Tryz.pinned (OpenSpec.ofChange codecTurnedSpec)

/-- ITS FALSE NEIGHBOUR: 'it returns false'. Refute it at one input. -/
def codecTurnedWrong : ChangeSpec := { name := "codecTurned", fn := fun _ => fun
  | [d1, d2, d3] => { results := [.lit (.bool false)], args := [d1, d2, d3] }
  | _ => none }
def CodecTurnedWrongFalsely : Prop := codecTurnedRow.holds Tryz.pinned (OpenSpec.ofChange codecTurnedWrong)

/-- 'inclinelaw12.CodecHolds': WHATEVER THE INPUT: true; the input reads as it did. -/
def codecHoldsSpec : ChangeSpec := { name := "codecHolds", fn := fun _ => fun
  | [d1, d2] => { results := [.lit (.bool true)], args := [d1, d2] }
  | _ => none }
def codecHoldsRow : OpenClaim := { program := "ythjimnmgbcckjaagreat", sum := "9dc5cf11817c007702dfebc131eb0f43ac9548ab073add6533d01ab099085ae8", func := "incline/inclinelaw12.CodecHolds", spec := "codecHolds", inPlace := ["math.Float64bits", "math.Float64frombits", "math.archFloor", "math.archTrunc"], unfollowed := true, recurses := true, named := ["math/bits.divideError", "math/bits.overflowError"], apart := false }
def CodecHoldsSaid : Prop := codecHoldsRow.holds Tryz.pinned (OpenSpec.ofChange codecHoldsSpec)

/-- ITS FALSE NEIGHBOUR: 'it returns false'. Refute it at one input. -/
def codecHoldsWrong : ChangeSpec := { name := "codecHolds", fn := fun _ => fun
  | [d1, d2] => { results := [.lit (.bool false)], args := [d1, d2] }
  | _ => none }
def CodecHoldsWrongFalsely : Prop := codecHoldsRow.holds Tryz.pinned (OpenSpec.ofChange codecHoldsWrong)

/- THE SECOND FORM. 'bulk': how many values and letters a reading holds, each counted each time it is reached (what is shared counts as often as it is met; a slice's spare places count too). A statement '..UptoSaid' is the law's where the arguments, and the package variables that the reading takes, are together of bulk at most 1048576: NARROWER than '..Said'. Prove '..Said' where nothing that the law and all that it calls make is longer than what came in: it says more and counts as full. Else prove '..UptoSaid'. A law counts once. -/
mutual
def uptoBulk {H : Type} : DataW H → Nat
  | .lit (.string bytes) => bytes.length + 1
  | .lit _ => 1
  | .nil => 1
  | .ptr d => uptoBulk d + 1
  | .slice elems spare => uptoBulkAll elems + uptoBulkAll spare + 1
  | .agg parts => uptoBulkAll parts + 1
  | .iface _ d => uptoBulk d + 1
  | .map entries => uptoBulkEntries entries + 1
  | .held _ => 1
def uptoBulkAll {H : Type} : List (DataW H) → Nat
  | [] => 0
  | d :: r => uptoBulk d + uptoBulkAll r
def uptoBulkEntries {H : Type} : List (Lit × DataW H) → Nat
  | [] => 0
  | x :: r => uptoBulkEntry x + uptoBulkEntries r
def uptoBulkEntry {H : Type} : Lit × DataW H → Nat
  | (.string bytes, d) => bytes.length + uptoBulk d + 1
  | (_, d) => uptoBulk d + 1
 end
def uptoSmall : (H : Type) → List (DataW H) → Bool := fun _ ds => decide (uptoBulkAll ds ≤ 1048576)
def OpenSpec.upto (s : _root_.Go.ChangeSpec) : _root_.Go.OpenSpec := { _root_.Go.OpenSpec.ofChange s with cond := some uptoSmall }

/-- 'inclinelaw12.CodecPuts', WHERE WHAT IT READS IS OF BULK AT MOST 1048576: true; the input reads as it did. -/
def codecPutsUptoRow : OpenClaim := { program := "ythjimnmgbcckjaagreat", sum := "9dc5cf11817c007702dfebc131eb0f43ac9548ab073add6533d01ab099085ae8", func := "incline/inclinelaw12.CodecPuts", spec := "codecPuts", inPlace := ["math.Float64bits", "math.Float64frombits", "math.archFloor", "math.archTrunc"], unfollowed := true, recurses := true, named := ["math/bits.divideError", "math/bits.overflowError"], apart := false, narrowed := true }
def CodecPutsUptoSaid : Prop := codecPutsUptoRow.holds Tryz.pinned (OpenSpec.upto codecPutsSpec)

/-- 'inclinelaw12.CodecBack', WHERE WHAT IT READS IS OF BULK AT MOST 1048576: true; the input reads as it did. -/
def codecBackUptoRow : OpenClaim := { program := "ythjimnmgbcckjaagreat", sum := "9dc5cf11817c007702dfebc131eb0f43ac9548ab073add6533d01ab099085ae8", func := "incline/inclinelaw12.CodecBack", spec := "codecBack", inPlace := ["math.Float64bits", "math.Float64frombits", "math.archFloor", "math.archTrunc"], unfollowed := true, recurses := true, named := ["math/bits.divideError", "math/bits.overflowError"], apart := false, narrowed := true }
def CodecBackUptoSaid : Prop := codecBackUptoRow.holds Tryz.pinned (OpenSpec.upto codecBackSpec)

/-- 'inclinelaw12.CodecOnce', WHERE WHAT IT READS IS OF BULK AT MOST 1048576: true; the input reads as it did. -/
def codecOnceUptoRow : OpenClaim := { program := "ythjimnmgbcckjaagreat", sum := "9dc5cf11817c007702dfebc131eb0f43ac9548ab073add6533d01ab099085ae8", func := "incline/inclinelaw12.CodecOnce", spec := "codecOnce", inPlace := ["math.Float64bits", "math.Float64frombits", "math.archFloor", "math.archTrunc"], unfollowed := true, recurses := true, named := ["math/bits.divideError", "math/bits.overflowError"], apart := false, narrowed := true }
def CodecOnceUptoSaid : Prop := codecOnceUptoRow.holds Tryz.pinned (OpenSpec.upto codecOnceSpec)

/-- 'inclinelaw12.CodecCut', WHERE WHAT IT READS IS OF BULK AT MOST 1048576: true; the input reads as it did. -/
def codecCutUptoRow : OpenClaim := { program := "ythjimnmgbcckjaagreat", sum := "9dc5cf11817c007702dfebc131eb0f43ac9548ab073add6533d01ab099085ae8", func := "incline/inclinelaw12.CodecCut", spec := "codecCut", inPlace := ["math.Float64bits", "math.Float64frombits", "math.archFloor", "math.archTrunc"], unfollowed := true, recurses := true, named := ["math/bits.divideError", "math/bits.overflowError"], apart := false, narrowed := true }
def CodecCutUptoSaid : Prop := codecCutUptoRow.holds Tryz.pinned (OpenSpec.upto codecCutSpec)

/-- 'inclinelaw12.CodecTurned', WHERE WHAT IT READS IS OF BULK AT MOST 1048576: true; the input reads as it did. -/
def codecTurnedUptoRow : OpenClaim := { program := "ythjimnmgbcckjaagreat", sum := "9dc5cf11817c007702dfebc131eb0f43ac9548ab073add6533d01ab099085ae8", func := "incline/inclinelaw12.CodecTurned", spec := "codecTurned", inPlace := ["math.Float64bits", "math.Float64frombits", "math.archFloor", "math.archTrunc"], unfollowed := true, recurses := true, named := ["math/bits.divideError", "math/bits.overflowError"], apart := false, narrowed := true }
def CodecTurnedUptoSaid : Prop := codecTurnedUptoRow.holds Tryz.pinned (OpenSpec.upto codecTurnedSpec)

/-- 'inclinelaw12.CodecHolds', WHERE WHAT IT READS IS OF BULK AT MOST 1048576: true; the input reads as it did. -/
def codecHoldsUptoRow : OpenClaim := { program := "ythjimnmgbcckjaagreat", sum := "9dc5cf11817c007702dfebc131eb0f43ac9548ab073add6533d01ab099085ae8", func := "incline/inclinelaw12.CodecHolds", spec := "codecHolds", inPlace := ["math.Float64bits", "math.Float64frombits", "math.archFloor", "math.archTrunc"], unfollowed := true, recurses := true, named := ["math/bits.divideError", "math/bits.overflowError"], apart := false, narrowed := true }
def CodecHoldsUptoSaid : Prop := codecHoldsUptoRow.holds Tryz.pinned (OpenSpec.upto codecHoldsSpec)

end Rows
end Go.Proofs.YthjimnmgbcckjaaGreat
