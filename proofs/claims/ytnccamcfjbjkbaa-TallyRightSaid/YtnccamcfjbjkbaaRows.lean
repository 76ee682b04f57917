/-
  No cell of these rows narrows 'for every input' (looked for: loops, veiled, ifaces, maps, wideKeys, modest, calm, conditions, laid).
  DERIVED. THE GIVEN ROWS OF THIS SEAT. 3 by the template 'for every input the law returns true; each argument reads behind the call as it read before'; 0 by the template 'total and deterministic' (their statements: YtnccamcfjbjkbaaTotals.lean).
  GIVEN WITH THE SEED: the statements are not yours to turn. If you find one false, say at which input.
  Laid BY PROGRAM, IN A SANDBOX (cutbox-rows.mjs): the forced cells as the released guide's own fill.sh prints them over the translation 9c2fb81c6ce6fe8a… (all of the seat's roots in one cut). By AI agents, Wed Nov 11 2026. No macro, syntax, notation, axiom, sorry.
-/
import Derived.Test.YtnccamcfjbjkbaaChecked
import GoSem.Claim
import GoSem.ClaimJoined
import GoSem.ClaimMapViews
import Derived.JoinedTies
import Derived.KernelRfl
namespace Go.Proofs.Ytnccamcfjbjkbaa
/- THE CELL 'sum', in the pinned program and in every row, IS THE sha256 OF THE DUMP (.gsa) THAT YtnccamcfjbjkbaaProg.lean LOADS. Nothing in Lean hashes anything: it is a label: what it is worth is what the hold of that sum in a sandbox is worth. -/
noncomputable def Try.pinned : Pinned := { name := "ytnccamcfjbjkbaa", sum := "9c2fb81c6ce6fe8a57e138c2c57672afb5c1d49def0d03b4d23a1fc0af808c5c", checked := Try.checked }
namespace Rows
def none {H : Type} : Left H := { results := [], args := [] }

/-- 'fuseboxlaw02.TallyRight': WHATEVER THE INPUT: true; the input reads as it did. -/
def tallyRightSpec : ChangeSpec := { name := "tallyRight", fn := fun _ => fun
  | [d1, d2, d3, d4] => { results := [.lit (.bool true)], args := [d1, d2, d3, d4] }
  | _ => none }
def tallyRightRow : OpenClaim := { program := "ytnccamcfjbjkbaa", sum := "9c2fb81c6ce6fe8a57e138c2c57672afb5c1d49def0d03b4d23a1fc0af808c5c", func := "fusebox/fuseboxlaw02.TallyRight", spec := "tallyRight", inPlace := ["math.archTrunc", "math.Float64bits", "math.Float64frombits"], apart := false }
def TallyRightSaid : Prop := tallyRightRow.holds Try.pinned (OpenSpec.ofChange tallyRightSpec)

/-- ITS FALSE NEIGHBOUR: 'it returns false'. Refute it at one input. -/
def tallyRightWrong : ChangeSpec := { name := "tallyRight", fn := fun _ => fun
  | [d1, d2, d3, d4] => { results := [.lit (.bool false)], args := [d1, d2, d3, d4] }
  | _ => none }
def TallyRightWrongFalsely : Prop := tallyRightRow.holds Try.pinned (OpenSpec.ofChange tallyRightWrong)

/-- 'fuseboxlaw02.TallyTurns': WHATEVER THE INPUT: true; the input reads as it did. -/
def tallyTurnsSpec : ChangeSpec := { name := "tallyTurns", fn := fun _ => fun
  | [d1, d2, d3, d4, d5, d6] => { results := [.lit (.bool true)], args := [d1, d2, d3, d4, d5, d6] }
  | _ => none }
def tallyTurnsRow : OpenClaim := { program := "ytnccamcfjbjkbaa", sum := "9c2fb81c6ce6fe8a57e138c2c57672afb5c1d49def0d03b4d23a1fc0af808c5c", func := "fusebox/fuseboxlaw02.TallyTurns", spec := "tallyTurns", inPlace := ["math.archTrunc", "math.Float64bits", "math.Float64frombits"], apart := false }
def TallyTurnsSaid : Prop := tallyTurnsRow.holds Try.pinned (OpenSpec.ofChange tallyTurnsSpec)

/-- ITS FALSE NEIGHBOUR: 'it returns false'. Refute it at one input. -/
def tallyTurnsWrong : ChangeSpec := { name := "tallyTurns", fn := fun _ => fun
  | [d1, d2, d3, d4, d5, d6] => { results := [.lit (.bool false)], args := [d1, d2, d3, d4, d5, d6] }
  | _ => none }
def TallyTurnsWrongFalsely : Prop := tallyTurnsRow.holds Try.pinned (OpenSpec.ofChange tallyTurnsWrong)

/-- 'fuseboxlaw02.TallyBeat': WHATEVER THE INPUT: true; the input reads as it did. -/
def tallyBeatSpec : ChangeSpec := { name := "tallyBeat", fn := fun _ => fun
  | [d1, d2, d3] => { results := [.lit (.bool true)], args := [d1, d2, d3] }
  | _ => none }
def tallyBeatRow : OpenClaim := { program := "ytnccamcfjbjkbaa", sum := "9c2fb81c6ce6fe8a57e138c2c57672afb5c1d49def0d03b4d23a1fc0af808c5c", func := "fusebox/fuseboxlaw02.TallyBeat", spec := "tallyBeat", inPlace := ["math.archTrunc", "math.Float64bits", "math.Float64frombits"], apart := false }
def TallyBeatSaid : Prop := tallyBeatRow.holds Try.pinned (OpenSpec.ofChange tallyBeatSpec)

/-- ITS FALSE NEIGHBOUR: 'it returns false'. Refute it at one input. -/
def tallyBeatWrong : ChangeSpec := { name := "tallyBeat", fn := fun _ => fun
  | [d1, d2, d3] => { results := [.lit (.bool false)], args := [d1, d2, d3] }
  | _ => none }
def TallyBeatWrongFalsely : Prop := tallyBeatRow.holds Try.pinned (OpenSpec.ofChange tallyBeatWrong)

/- THE SECOND FORM. 'bulk': how many values and letters a reading holds, each counted each time it is reached (what is shared counts as often as it is met; a slice's spare places count too). A statement '..UptoSaid' is the law's where the arguments, and the package variables that the reading takes, are together of bulk at most 1048576: NARROWER than '..Said'. Prove '..Said' where nothing that the law and all that it calls make is longer than what came in: it says more and counts as full. Else prove '..UptoSaid'. A law counts once. -/
mutual
def uptoBulk {H : Type} : DataW H → Nat
  | .lit (.string bytes) => bytes.length + 1
  | .lit _ => 1
  | .nil => 1
  | .ptr d => uptoBulk d + 1
  | .slice elems spare => uptoBulkAll elems + uptoBulkAll spare + 1
  | .agg parts => uptoBulkAll parts + 1
  | .iface _ d => uptoBulk d + 1
  | .map entries => uptoBulkEntries entries + 1
  | .held _ => 1
def uptoBulkAll {H : Type} : List (DataW H) → Nat
  | [] => 0
  | d :: r => uptoBulk d + uptoBulkAll r
def uptoBulkEntries {H : Type} : List (Lit × DataW H) → Nat
  | [] => 0
  | x :: r => uptoBulkEntry x + uptoBulkEntries r
def uptoBulkEntry {H : Type} : Lit × DataW H → Nat
  | (.string bytes, d) => bytes.length + uptoBulk d + 1
  | (_, d) => uptoBulk d + 1
 end
def uptoSmall : (H : Type) → List (DataW H) → Bool := fun _ ds => decide (uptoBulkAll ds ≤ 1048576)
def OpenSpec.upto (s : _root_.Go.ChangeSpec) : _root_.Go.OpenSpec := { _root_.Go.OpenSpec.ofChange s with cond := some uptoSmall }

/-- 'fuseboxlaw02.TallyRight', WHERE WHAT IT READS IS OF BULK AT MOST 1048576: true; the input reads as it did. -/
def tallyRightUptoRow : OpenClaim := { program := "ytnccamcfjbjkbaa", sum := "9c2fb81c6ce6fe8a57e138c2c57672afb5c1d49def0d03b4d23a1fc0af808c5c", func := "fusebox/fuseboxlaw02.TallyRight", spec := "tallyRight", inPlace := ["math.archTrunc", "math.Float64bits", "math.Float64frombits"], apart := false, narrowed := true }
def TallyRightUptoSaid : Prop := tallyRightUptoRow.holds Try.pinned (OpenSpec.upto tallyRightSpec)

/-- 'fuseboxlaw02.TallyTurns', WHERE WHAT IT READS IS OF BULK AT MOST 1048576: true; the input reads as it did. -/
def tallyTurnsUptoRow : OpenClaim := { program := "ytnccamcfjbjkbaa", sum := "9c2fb81c6ce6fe8a57e138c2c57672afb5c1d49def0d03b4d23a1fc0af808c5c", func := "fusebox/fuseboxlaw02.TallyTurns", spec := "tallyTurns", inPlace := ["math.archTrunc", "math.Float64bits", "math.Float64frombits"], apart := false, narrowed := true }
def TallyTurnsUptoSaid : Prop := tallyTurnsUptoRow.holds Try.pinned (OpenSpec.upto tallyTurnsSpec)

/-- 'fuseboxlaw02.TallyBeat', WHERE WHAT IT READS IS OF BULK AT MOST 1048576: true; the input reads as it did. -/
def tallyBeatUptoRow : OpenClaim := { program := "ytnccamcfjbjkbaa", sum := "9c2fb81c6ce6fe8a57e138c2c57672afb5c1d49def0d03b4d23a1fc0af808c5c", func := "fusebox/fuseboxlaw02.TallyBeat", spec := "tallyBeat", inPlace := ["math.archTrunc", "math.Float64bits", "math.Float64frombits"], apart := false, narrowed := true }
def TallyBeatUptoSaid : Prop := tallyBeatUptoRow.holds Try.pinned (OpenSpec.upto tallyBeatSpec)

end Rows
end Go.Proofs.Ytnccamcfjbjkbaa
