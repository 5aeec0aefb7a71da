/-
  No cell of these rows narrows 'for every input' (looked for: loops, veiled, ifaces, maps, wideKeys, modest, calm, conditions, laid).
  DERIVED. THE GIVEN ROWS OF THIS SEAT. 4 by the template 'for every input the law returns true; each argument reads behind the call as it read before'; 0 by the template 'total and deterministic' (their statements: YtelpbbkmkighfaaGreatTotals.lean).
  GIVEN WITH THE SEED: the statements are not yours to turn. If you find one false, say at which input.
  Laid BY PROGRAM, IN A SANDBOX (cutbox-rows.mjs): the forced cells as the released guide's own fill.sh prints them over the translation b4e75868ef14dd71… (all of the seat's roots in one cut). By AI agents, Wed Nov 11 2026. No macro, syntax, notation, axiom, sorry.
-/
import Derived.Test.YtelpbbkmkighfaaGreatChecked
import GoSem.Claim
import GoSem.ClaimJoined
import GoSem.ClaimMapViews
import Derived.JoinedTies
import Derived.KernelRfl
namespace Go.Proofs.YtelpbbkmkighfaaGreat
/- THE CELL 'sum', in the pinned program and in every row, IS THE sha256 OF THE DUMP (.gsa) THAT YtelpbbkmkighfaaGreatProg.lean LOADS. Nothing in Lean hashes anything: it is a label: what it is worth is what the hold of that sum in a sandbox is worth. -/
noncomputable def Tryz.pinned : Pinned := { name := "ytelpbbkmkighfaagreat", sum := "b4e75868ef14dd7119c799bbfacd7df2f3b170db8335591d4ff48c42d4c4f2f0", checked := Tryz.checked }
namespace Rows
def none {H : Type} : Left H := { results := [], args := [] }

/-- 'inclinelaw11.RunAsks': WHATEVER THE INPUT: true; the input reads as it did. -/
def runAsksSpec : ChangeSpec := { name := "runAsks", fn := fun _ => fun
  | [d1, d2, d3] => { results := [.lit (.bool true)], args := [d1, d2, d3] }
  | _ => none }
def runAsksRow : OpenClaim := { program := "ytelpbbkmkighfaagreat", sum := "b4e75868ef14dd7119c799bbfacd7df2f3b170db8335591d4ff48c42d4c4f2f0", func := "incline/inclinelaw11.RunAsks", spec := "runAsks", inPlace := ["math.Float64bits", "math.Float64frombits", "math.archFloor", "math.archTrunc"], unfollowed := true, recurses := true, named := ["math/bits.divideError", "math/bits.overflowError"], apart := false }
def RunAsksSaid : Prop := runAsksRow.holds Tryz.pinned (OpenSpec.ofChange runAsksSpec)

/-- ITS FALSE NEIGHBOUR: 'it returns false'. Refute it at one input. -/
def runAsksWrong : ChangeSpec := { name := "runAsks", fn := fun _ => fun
  | [d1, d2, d3] => { results := [.lit (.bool false)], args := [d1, d2, d3] }
  | _ => none }
def RunAsksWrongFalsely : Prop := runAsksRow.holds Tryz.pinned (OpenSpec.ofChange runAsksWrong)

/-- 'inclinelaw11.RunBuilds': WHATEVER THE INPUT: true; the input reads as it did. -/
def runBuildsSpec : ChangeSpec := { name := "runBuilds", fn := fun _ => fun
  | [d1, d2] => { results := [.lit (.bool true)], args := [d1, d2] }
  | _ => none }
def runBuildsRow : OpenClaim := { program := "ytelpbbkmkighfaagreat", sum := "b4e75868ef14dd7119c799bbfacd7df2f3b170db8335591d4ff48c42d4c4f2f0", func := "incline/inclinelaw11.RunBuilds", spec := "runBuilds", inPlace := ["math.Float64bits", "math.Float64frombits", "math.archFloor", "math.archTrunc"], unfollowed := true, recurses := true, named := ["math/bits.divideError", "math/bits.overflowError"], apart := false }
def RunBuildsSaid : Prop := runBuildsRow.holds Tryz.pinned (OpenSpec.ofChange runBuildsSpec)

/-- ITS FALSE NEIGHBOUR: 'it returns false'. Refute it at one input. -/
def runBuildsWrong : ChangeSpec := { name := "runBuilds", fn := fun _ => fun
  | [d1, d2] => { results := [.lit (.bool false)], args := [d1, d2] }
  | _ => none }
def RunBuildsWrongFalsely : Prop := runBuildsRow.holds Tryz.pinned (OpenSpec.ofChange runBuildsWrong)

/-- 'inclinelaw11.RunBound': WHATEVER THE INPUT: true; the input reads as it did. -/
def runBoundSpec : ChangeSpec := { name := "runBound", fn := fun _ => fun
  | [d1, d2, d3] => { results := [.lit (.bool true)], args := [d1, d2, d3] }
  | _ => none }
def runBoundRow : OpenClaim := { program := "ytelpbbkmkighfaagreat", sum := "b4e75868ef14dd7119c799bbfacd7df2f3b170db8335591d4ff48c42d4c4f2f0", func := "incline/inclinelaw11.RunBound", spec := "runBound", inPlace := ["math.Float64bits", "math.Float64frombits", "math.archFloor", "math.archTrunc"], unfollowed := true, recurses := true, named := ["math/bits.divideError", "math/bits.overflowError"], apart := false }
def RunBoundSaid : Prop := runBoundRow.holds Tryz.pinned (OpenSpec.ofChange runBoundSpec)

/-- ITS FALSE NEIGHBOUR: 'it returns false'. Refute it at one input. -/
def runBoundWrong : ChangeSpec := { name := "runBound", fn := fun _ => fun
  | [d1, d2, d3] => { results := [.lit (.bool false)], args := [d1, d2, d3] }
  | _ => none }
def RunBoundWrongFalsely : Prop := runBoundRow.holds Tryz.pinned (OpenSpec.ofChange runBoundWrong)

/-- 'inclinelaw11.RunNear': WHATEVER THE INPUT: true; the input reads as it did. -/
def runNearSpec : ChangeSpec := { name := "runNear", fn := fun _ => fun
  | [d1, d2, d3, d4] => { results := [.lit (.bool true)], args := [d1, d2, d3, d4] }
  | _ => none }
def runNearRow : OpenClaim := { program := "ytelpbbkmkighfaagreat", sum := "b4e75868ef14dd7119c799bbfacd7df2f3b170db8335591d4ff48c42d4c4f2f0", func := "incline/inclinelaw11.RunNear", spec := "runNear", inPlace := ["math.Float64bits", "math.Float64frombits", "math.archFloor", "math.archTrunc"], unfollowed := true, recurses := true, named := ["math/bits.divideError", "math/bits.overflowError"], apart := false }
def RunNearSaid : Prop := runNearRow.holds Tryz.pinned (OpenSpec.ofChange runNearSpec)

/-- ITS FALSE NEIGHBOUR: 'it returns false'. Refute it at one input. -/
def runNearWrong : ChangeSpec := { name := "runNear", fn := fun _ => fun
  | [d1, d2, d3, d4] => { results := [.lit (.bool false)], args := [d1, d2, d3, d4] }
  | _ => none }
def RunNearWrongFalsely : Prop := runNearRow.holds Tryz.pinned (OpenSpec.ofChange runNearWrong)

/- THE SECOND FORM. 'bulk': how many values and letters a reading holds, each counted each time it is reached (what is shared counts as often as it is met; a slice's spare places count too). A statement '..UptoSaid' is the law's where the arguments, and the package variables that the reading takes, are together of bulk at most 1048576: NARROWER than '..Said'. Prove '..Said' where nothing that the law and all that it calls make is longer than what came in: it says more and counts as full. Else prove '..UptoSaid'. A law counts once. -/
mutual
def uptoBulk {H : Type} : DataW H → Nat
  | .lit (.string bytes) => bytes.length + 1
  | .lit _ => 1
  | .nil => 1
  | .ptr d => uptoBulk d + 1
  | .slice elems spare => uptoBulkAll elems + uptoBulkAll spare + 1
  | .agg parts => uptoBulkAll parts + 1
  | .iface _ d => uptoBulk d + 1
  | .map entries => uptoBulkEntries entries + 1
  | .held _ => 1
def uptoBulkAll {H : Type} : List (DataW H) → Nat
  | [] => 0
  | d :: r => uptoBulk d + uptoBulkAll r
def uptoBulkEntries {H : Type} : List (Lit × DataW H) → Nat
  | [] => 0
  | x :: r => uptoBulkEntry x + uptoBulkEntries r
def uptoBulkEntry {H : Type} : Lit × DataW H → Nat
  | (.string bytes, d) => bytes.length + uptoBulk d + 1
  | (_, d) => uptoBulk d + 1
 end
def uptoSmall : (H : Type) → List (DataW H) → Bool := fun _ ds => decide (uptoBulkAll ds ≤ 1048576)
def OpenSpec.upto (s : _root_.Go.ChangeSpec) : _root_.Go.OpenSpec := { _root_.Go.OpenSpec.ofChange s with cond := some uptoSmall }

/-- 'inclinelaw11.RunAsks', WHERE WHAT IT READS IS OF BULK AT MOST 1048576: true; the input reads as it did. -/
def runAsksUptoRow : OpenClaim := { program := "ytelpbbkmkighfaagreat", sum := "b4e75868ef14dd7119c799bbfacd7df2f3b170db8335591d4ff48c42d4c4f2f0", func := "incline/inclinelaw11.RunAsks", spec := "runAsks", inPlace := ["math.Float64bits", "math.Float64frombits", "math.archFloor", "math.archTrunc"], unfollowed := true, recurses := true, named := ["math/bits.divideError", "math/bits.overflowError"], apart := false, narrowed := true }
def RunAsksUptoSaid : Prop := runAsksUptoRow.holds Tryz.pinned (OpenSpec.upto runAsksSpec)

/-- 'inclinelaw11.RunBuilds', WHERE WHAT IT READS IS OF BULK AT MOST 1048576: true; the input reads as it did. -/
def runBuildsUptoRow : OpenClaim := { program := "ytelpbbkmkighfaagreat", sum := "b4e75868ef14dd7119c799bbfacd7df2f3b170db8335591d4ff48c42d4c4f2f0", func := "incline/inclinelaw11.RunBuilds", spec := "runBuilds", inPlace := ["math.Float64bits", "math.Float64frombits", "math.archFloor", "math.archTrunc"], unfollowed := true, recurses := true, named := ["math/bits.divideError", "math/bits.overflowError"], apart := false, narrowed := true }
def RunBuildsUptoSaid : Prop := runBuildsUptoRow.holds Tryz.pinned (OpenSpec.upto runBuildsSpec)

/-- 'inclinelaw11.RunBound', WHERE WHAT IT READS IS OF BULK AT MOST 1048576: true; the input reads as it did. -/
def runBoundUptoRow : OpenClaim := { program := "ytelpbbkmkighfaagreat", sum := "b4e75868ef14dd7119c799bbfacd7df2f3b170db8335591d4ff48c42d4c4f2f0", func := "incline/inclinelaw11.RunBound", spec := "runBound", inPlace := ["math.Float64bits", "math.Float64frombits", "math.archFloor", "math.archTrunc"], unfollowed := true, recurses := true, named := ["math/bits.divideError", "math/bits.overflowError"], apart := false, narrowed := true }
def RunBoundUptoSaid : Prop := runBoundUptoRow.holds Tryz.pinned (OpenSpec.upto runBoundSpec)

/-- 'inclinelaw11.RunNear', WHERE WHAT IT READS IS OF BULK AT MOST 1048576: true; the input reads as it did. -/
def runNearUptoRow : OpenClaim := { program := "ytelpbbkmkighfaagreat", sum := "b4e75868ef14dd7119c799bbfacd7df2f3b170db8335591d4ff48c42d4c4f2f0", func := "incline/inclinelaw11.RunNear", spec := "runNear", inPlace := ["math.Float64bits", "math.Float64frombits", "math.archFloor", "math.archTrunc"], unfollowed := true, recurses := true, named := ["math/bits.divideError", "math/bits.overflowError"], apart := false, narrowed := true }
def RunNearUptoSaid : Prop := runNearUptoRow.holds Tryz.pinned (OpenSpec.upto runNearSpec)

end Rows
end Go.Proofs.YtelpbbkmkighfaaGreat
