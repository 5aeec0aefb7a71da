/-
  No cell of these rows narrows 'for every input' (looked for: loops, veiled, ifaces, maps, wideKeys, modest, calm, conditions, laid).
  DERIVED. THE GIVEN ROWS OF THIS SEAT. 4 by the template 'for every input the law returns true; each argument reads behind the call as it read before'; 0 by the template 'total and deterministic' (their statements: YtjannhphmemenaaTotals.lean).
  GIVEN WITH THE SEED: the statements are not yours to turn. If you find one false, say at which input.
  Laid BY PROGRAM, IN A SANDBOX (cutbox-rows.mjs): the forced cells as the released guide's own fill.sh prints them over the translation dfcc9464fb0deec9… (all of the seat's roots in one cut). By AI agents, Wed Nov 11 2026. No macro, syntax, notation, axiom, sorry.
-/
import Derived.Test.YtjannhphmemenaaChecked
import GoSem.Claim
import GoSem.ClaimJoined
import GoSem.ClaimMapViews
import Derived.JoinedTies
import Derived.KernelRfl
namespace Go.Proofs.Ytjannhphmemenaa
/- THE CELL 'sum', in the pinned program and in every row, IS THE sha256 OF THE DUMP (.gsa) THAT YtjannhphmemenaaProg.lean LOADS. Nothing in Lean hashes anything: it is a label: what it is worth is what the hold of that sum in a sandbox is worth. -/
noncomputable def Try.pinned : Pinned := { name := "ytjannhphmemenaa", sum := "dfcc9464fb0deec98d02c95ac36f163247d99da627391bf0760bd7d7f4a9490a", checked := Try.checked }
namespace Rows
def none {H : Type} : Left H := { results := [], args := [] }

/-- 'inclinelaw23.JudgeAll': WHATEVER THE INPUT: true; the input reads as it did. -/
def judgeAllSpec : ChangeSpec := { name := "judgeAll", fn := fun _ => fun
  | [d1, d2, d3] => { results := [.lit (.bool true)], args := [d1, d2, d3] }
  | _ => none }
def judgeAllRow : OpenClaim := { program := "ytjannhphmemenaa", sum := "dfcc9464fb0deec98d02c95ac36f163247d99da627391bf0760bd7d7f4a9490a", func := "incline/inclinelaw23.JudgeAll", spec := "judgeAll", recurses := true, apart := false }
def JudgeAllSaid : Prop := judgeAllRow.holds Try.pinned (OpenSpec.ofChange judgeAllSpec)

/-- ITS FALSE NEIGHBOUR: 'it returns false'. Refute it at one input. -/
def judgeAllWrong : ChangeSpec := { name := "judgeAll", fn := fun _ => fun
  | [d1, d2, d3] => { results := [.lit (.bool false)], args := [d1, d2, d3] }
  | _ => none }
def JudgeAllWrongFalsely : Prop := judgeAllRow.holds Try.pinned (OpenSpec.ofChange judgeAllWrong)

/-- 'inclinelaw23.JudgeFinds': WHATEVER THE INPUT: true; the input reads as it did. -/
def judgeFindsSpec : ChangeSpec := { name := "judgeFinds", fn := fun _ => fun
  | [d1, d2, d3, d4, d5] => { results := [.lit (.bool true)], args := [d1, d2, d3, d4, d5] }
  | _ => none }
def judgeFindsRow : OpenClaim := { program := "ytjannhphmemenaa", sum := "dfcc9464fb0deec98d02c95ac36f163247d99da627391bf0760bd7d7f4a9490a", func := "incline/inclinelaw23.JudgeFinds", spec := "judgeFinds", recurses := true, apart := false }
def JudgeFindsSaid : Prop := judgeFindsRow.holds Try.pinned (OpenSpec.ofChange judgeFindsSpec)

/-- ITS FALSE NEIGHBOUR: 'it returns false'. Refute it at one input. -/
def judgeFindsWrong : ChangeSpec := { name := "judgeFinds", fn := fun _ => fun
  | [d1, d2, d3, d4, d5] => { results := [.lit (.bool false)], args := [d1, d2, d3, d4, d5] }
  | _ => none }
def JudgeFindsWrongFalsely : Prop := judgeFindsRow.holds Try.pinned (OpenSpec.ofChange judgeFindsWrong)

/-- 'inclinelaw23.JudgePlays': WHATEVER THE INPUT: true; the input reads as it did. -/
def judgePlaysSpec : ChangeSpec := { name := "judgePlays", fn := fun _ => fun
  | [d1, d2] => { results := [.lit (.bool true)], args := [d1, d2] }
  | _ => none }
def judgePlaysRow : OpenClaim := { program := "ytjannhphmemenaa", sum := "dfcc9464fb0deec98d02c95ac36f163247d99da627391bf0760bd7d7f4a9490a", func := "incline/inclinelaw23.JudgePlays", spec := "judgePlays", recurses := true, apart := false }
def JudgePlaysSaid : Prop := judgePlaysRow.holds Try.pinned (OpenSpec.ofChange judgePlaysSpec)

/-- ITS FALSE NEIGHBOUR: 'it returns false'. Refute it at one input. -/
def judgePlaysWrong : ChangeSpec := { name := "judgePlays", fn := fun _ => fun
  | [d1, d2] => { results := [.lit (.bool false)], args := [d1, d2] }
  | _ => none }
def JudgePlaysWrongFalsely : Prop := judgePlaysRow.holds Try.pinned (OpenSpec.ofChange judgePlaysWrong)

/-- 'inclinelaw23.JudgeKeeps': WHATEVER THE INPUT: true; the input reads as it did. -/
def judgeKeepsSpec : ChangeSpec := { name := "judgeKeeps", fn := fun _ => fun
  | [d1, d2, d3] => { results := [.lit (.bool true)], args := [d1, d2, d3] }
  | _ => none }
def judgeKeepsRow : OpenClaim := { program := "ytjannhphmemenaa", sum := "dfcc9464fb0deec98d02c95ac36f163247d99da627391bf0760bd7d7f4a9490a", func := "incline/inclinelaw23.JudgeKeeps", spec := "judgeKeeps", recurses := true, apart := false }
def JudgeKeepsSaid : Prop := judgeKeepsRow.holds Try.pinned (OpenSpec.ofChange judgeKeepsSpec)

/-- ITS FALSE NEIGHBOUR: 'it returns false'. Refute it at one input. -/
def judgeKeepsWrong : ChangeSpec := { name := "judgeKeeps", fn := fun _ => fun
  | [d1, d2, d3] => { results := [.lit (.bool false)], args := [d1, d2, d3] }
  | _ => none }
def JudgeKeepsWrongFalsely : Prop := judgeKeepsRow.holds Try.pinned (OpenSpec.ofChange judgeKeepsWrong)

/- THE SECOND FORM. 'bulk': how many values and letters a reading holds, each counted each time it is reached (what is shared counts as often as it is met; a slice's spare places count too). A statement '..UptoSaid' is the law's where the arguments, and the package variables that the reading takes, are together of bulk at most 1048576: NARROWER than '..Said'. Prove '..Said' where nothing that the law and all that it calls make is longer than what came in: it says more and counts as full. Else prove '..UptoSaid'. A law counts once. -/
mutual
def uptoBulk {H : Type} : DataW H → Nat
  | .lit (.string bytes) => bytes.length + 1
  | .lit _ => 1
  | .nil => 1
  | .ptr d => uptoBulk d + 1
  | .slice elems spare => uptoBulkAll elems + uptoBulkAll spare + 1
  | .agg parts => uptoBulkAll parts + 1
  | .iface _ d => uptoBulk d + 1
  | .map entries => uptoBulkEntries entries + 1
  | .held _ => 1
def uptoBulkAll {H : Type} : List (DataW H) → Nat
  | [] => 0
  | d :: r => uptoBulk d + uptoBulkAll r
def uptoBulkEntries {H : Type} : List (Lit × DataW H) → Nat
  | [] => 0
  | x :: r => uptoBulkEntry x + uptoBulkEntries r
def uptoBulkEntry {H : Type} : Lit × DataW H → Nat
  | (.string bytes, d) => bytes.length + uptoBulk d + 1
  | (_, d) => uptoBulk d + 1
 end
def uptoSmall : (H : Type) → List (DataW H) → Bool := fun _ ds => decide (uptoBulkAll ds ≤ 1048576)
def OpenSpec.upto (s : _root_.Go.ChangeSpec) : _root_.Go.OpenSpec := { _root_.Go.OpenSpec.ofChange s with cond := some uptoSmall }

/-- 'inclinelaw23.JudgeAll', WHERE WHAT IT READS IS OF BULK AT MOST 1048576: true; the input reads as it did. -/
def judgeAllUptoRow : OpenClaim := { program := "ytjannhphmemenaa", sum := "dfcc9464fb0deec98d02c95ac36f163247d99da627391bf0760bd7d7f4a9490a", func := "incline/inclinelaw23.JudgeAll", spec := "judgeAll", recurses := true, apart := false, narrowed := true }
def JudgeAllUptoSaid : Prop := judgeAllUptoRow.holds Try.pinned (OpenSpec.upto judgeAllSpec)

/-- 'inclinelaw23.JudgeFinds', WHERE WHAT IT READS IS OF BULK AT MOST 1048576: true; the input reads as it did. -/
def judgeFindsUptoRow : OpenClaim := { program := "ytjannhphmemenaa", sum := "dfcc9464fb0deec98d02c95ac36f163247d99da627391bf0760bd7d7f4a9490a", func := "incline/inclinelaw23.JudgeFinds", spec := "judgeFinds", recurses := true, apart := false, narrowed := true }
def JudgeFindsUptoSaid : Prop := judgeFindsUptoRow.holds Try.pinned (OpenSpec.upto judgeFindsSpec)

/-- 'inclinelaw23.JudgePlays', WHERE WHAT IT READS IS OF BULK AT MOST 1048576: true; the input reads as it did. -/
def judgePlaysUptoRow : OpenClaim := { program := "ytjannhphmemenaa", sum := "dfcc9464fb0deec98d02c95ac36f163247d99da627391bf0760bd7d7f4a9490a", func := "incline/inclinelaw23.JudgePlays", spec := "judgePlays", recurses := true, apart := false, narrowed := true }
def JudgePlaysUptoSaid : Prop := judgePlaysUptoRow.holds Try.pinned (OpenSpec.upto judgePlaysSpec)

/-- 'inclinelaw23.JudgeKeeps', WHERE WHAT IT READS IS OF BULK AT MOST 1048576: true; the input reads as it did. -/
def judgeKeepsUptoRow : OpenClaim := { program := "ytjannhphmemenaa", sum := "dfcc9464fb0deec98d02c95ac36f163247d99da627391bf0760bd7d7f4a9490a", func := "incline/inclinelaw23.JudgeKeeps", spec := "judgeKeeps", recurses := true, apart := false, narrowed := true }
def JudgeKeepsUptoSaid : Prop := judgeKeepsUptoRow.holds Try.pinned (OpenSpec.upto judgeKeepsSpec)

end Rows
end Go.Proofs.Ytjannhphmemenaa
