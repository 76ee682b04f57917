/-
  No cell of these rows narrows 'for every input' (looked for: loops, veiled, ifaces, maps, wideKeys, modest, calm, conditions, laid).
  DERIVED. THE GIVEN ROWS OF THIS SEAT. 3 by the template 'for every input the law returns true; each argument reads behind the call as it read before'; 0 by the template 'total and deterministic' (their statements: YtmkjfpmailihjaaTotals.lean).
  GIVEN WITH THE SEED: the statements are not yours to turn. If you find one false, say at which input.
  Laid BY PROGRAM, IN A SANDBOX (cutbox-rows.mjs): the forced cells as the released guide's own fill.sh prints them over the translation 2e6738108f3dad37… (all of the seat's roots in one cut). By AI agents, Wed Nov 11 2026. No macro, syntax, notation, axiom, sorry.
-/
import Derived.Test.YtmkjfpmailihjaaChecked
import GoSem.Claim
import GoSem.ClaimJoined
import GoSem.ClaimMapViews
import Derived.JoinedTies
import Derived.KernelRfl
namespace Go.Proofs.Ytmkjfpmailihjaa
/- THE CELL 'sum', in the pinned program and in every row, IS THE sha256 OF THE DUMP (.gsa) THAT YtmkjfpmailihjaaProg.lean LOADS. Nothing in Lean hashes anything: it is a label: what it is worth is what the hold of that sum in a sandbox is worth. -/
noncomputable def Try.pinned : Pinned := { name := "ytmkjfpmailihjaa", sum := "2e6738108f3dad3719ba07494ac7e6b91b88e34f735374be64f60a6864f7d62c", checked := Try.checked }
namespace Rows
def none {H : Type} : Left H := { results := [], args := [] }

/-- 'fuseboxlaw11.WindowRight': WHATEVER THE INPUT: true; the input reads as it did. -/
def windowRightSpec : ChangeSpec := { name := "windowRight", fn := fun _ => fun
  | [d1, d2, d3, d4, d5] => { results := [.lit (.bool true)], args := [d1, d2, d3, d4, d5] }
  | _ => none }
def windowRightRow : OpenClaim := { program := "ytmkjfpmailihjaa", sum := "2e6738108f3dad3719ba07494ac7e6b91b88e34f735374be64f60a6864f7d62c", func := "fusebox/fuseboxlaw11.WindowRight", spec := "windowRight", inPlace := ["math.archTrunc", "math.Float64bits", "math.Float64frombits"], unfollowed := true, recurses := true, apart := false }
def WindowRightSaid : Prop := windowRightRow.holds Try.pinned (OpenSpec.ofChange windowRightSpec)

/-- ITS FALSE NEIGHBOUR: 'it returns false'. Refute it at one input. -/
def windowRightWrong : ChangeSpec := { name := "windowRight", fn := fun _ => fun
  | [d1, d2, d3, d4, d5] => { results := [.lit (.bool false)], args := [d1, d2, d3, d4, d5] }
  | _ => none }
def WindowRightWrongFalsely : Prop := windowRightRow.holds Try.pinned (OpenSpec.ofChange windowRightWrong)

/-- 'fuseboxlaw11.WindowLate': WHATEVER THE INPUT: true; the input reads as it did. -/
def windowLateSpec : ChangeSpec := { name := "windowLate", fn := fun _ => fun
  | [d1, d2, d3, d4] => { results := [.lit (.bool true)], args := [d1, d2, d3, d4] }
  | _ => none }
def windowLateRow : OpenClaim := { program := "ytmkjfpmailihjaa", sum := "2e6738108f3dad3719ba07494ac7e6b91b88e34f735374be64f60a6864f7d62c", func := "fusebox/fuseboxlaw11.WindowLate", spec := "windowLate", inPlace := ["math.archTrunc", "math.Float64bits", "math.Float64frombits"], unfollowed := true, recurses := true, apart := false }
def WindowLateSaid : Prop := windowLateRow.holds Try.pinned (OpenSpec.ofChange windowLateSpec)

/-- ITS FALSE NEIGHBOUR: 'it returns false'. Refute it at one input. -/
def windowLateWrong : ChangeSpec := { name := "windowLate", fn := fun _ => fun
  | [d1, d2, d3, d4] => { results := [.lit (.bool false)], args := [d1, d2, d3, d4] }
  | _ => none }
def WindowLateWrongFalsely : Prop := windowLateRow.holds Try.pinned (OpenSpec.ofChange windowLateWrong)

/-- 'fuseboxlaw11.WindowMoves': WHATEVER THE INPUT: true; the input reads as it did. -/
def windowMovesSpec : ChangeSpec := { name := "windowMoves", fn := fun _ => fun
  | [d1, d2, d3, d4] => { results := [.lit (.bool true)], args := [d1, d2, d3, d4] }
  | _ => none }
def windowMovesRow : OpenClaim := { program := "ytmkjfpmailihjaa", sum := "2e6738108f3dad3719ba07494ac7e6b91b88e34f735374be64f60a6864f7d62c", func := "fusebox/fuseboxlaw11.WindowMoves", spec := "windowMoves", inPlace := ["math.archTrunc", "math.Float64bits", "math.Float64frombits"], unfollowed := true, recurses := true, apart := false }
def WindowMovesSaid : Prop := windowMovesRow.holds Try.pinned (OpenSpec.ofChange windowMovesSpec)

/-- ITS FALSE NEIGHBOUR: 'it returns false'. Refute it at one input. -/
def windowMovesWrong : ChangeSpec := { name := "windowMoves", fn := fun _ => fun
  | [d1, d2, d3, d4] => { results := [.lit (.bool false)], args := [d1, d2, d3, d4] }
  | _ => none }
def WindowMovesWrongFalsely : Prop := windowMovesRow.holds Try.pinned (OpenSpec.ofChange windowMovesWrong)

/- THE SECOND FORM. 'bulk': how many values and letters a reading holds, each counted each time it is reached (what is shared counts as often as it is met; a slice's spare places count too). A statement '..UptoSaid' is the law's where the arguments, and the package variables that the reading takes, are together of bulk at most 1048576: NARROWER than '..Said'. Prove '..Said' where nothing that the law and all that it calls make is longer than what came in: it says more and counts as full. Else prove '..UptoSaid'. A law counts once. -/
mutual
def uptoBulk {H : Type} : DataW H → Nat
  | .lit (.string bytes) => bytes.length + 1
  | .lit _ => 1
  | .nil => 1
  | .ptr d => uptoBulk d + 1
  | .slice elems spare => uptoBulkAll elems + uptoBulkAll spare + 1
  | .agg parts => uptoBulkAll parts + 1
  | .iface _ d => uptoBulk d + 1
  | .map entries => uptoBulkEntries entries + 1
  | .held _ => 1
def uptoBulkAll {H : Type} : List (DataW H) → Nat
  | [] => 0
  | d :: r => uptoBulk d + uptoBulkAll r
def uptoBulkEntries {H : Type} : List (Lit × DataW H) → Nat
  | [] => 0
  | x :: r => uptoBulkEntry x + uptoBulkEntries r
def uptoBulkEntry {H : Type} : Lit × DataW H → Nat
  | (.string bytes, d) => bytes.length + uptoBulk d + 1
  | (_, d) => uptoBulk d + 1
 end
def uptoSmall : (H : Type) → List (DataW H) → Bool := fun _ ds => decide (uptoBulkAll ds ≤ 1048576)
def OpenSpec.upto (s : _root_.Go.ChangeSpec) : _root_.Go.OpenSpec := { _root_.Go.OpenSpec.ofChange s with cond := some uptoSmall }

/-- 'fuseboxlaw11.WindowRight', WHERE WHAT IT READS IS OF BULK AT MOST 1048576: true; the input reads as it did. -/
def windowRightUptoRow : OpenClaim := { program := "ytmkjfpmailihjaa", sum := "2e6738108f3dad3719ba07494ac7e6b91b88e34f735374be64f60a6864f7d62c", func := "fusebox/fuseboxlaw11.WindowRight", spec := "windowRight", inPlace := ["math.archTrunc", "math.Float64bits", "math.Float64frombits"], unfollowed := true, recurses := true, apart := false, narrowed := true }
def WindowRightUptoSaid : Prop := windowRightUptoRow.holds Try.pinned (OpenSpec.upto windowRightSpec)

/-- 'fuseboxlaw11.WindowLate', WHERE WHAT IT READS IS OF BULK AT MOST 1048576: true; the input reads as it did. -/
def windowLateUptoRow : OpenClaim := { program := "ytmkjfpmailihjaa", sum := "2e6738108f3dad3719ba07494ac7e6b91b88e34f735374be64f60a6864f7d62c", func := "fusebox/fuseboxlaw11.WindowLate", spec := "windowLate", inPlace := ["math.archTrunc", "math.Float64bits", "math.Float64frombits"], unfollowed := true, recurses := true, apart := false, narrowed := true }
def WindowLateUptoSaid : Prop := windowLateUptoRow.holds Try.pinned (OpenSpec.upto windowLateSpec)

/-- 'fuseboxlaw11.WindowMoves', WHERE WHAT IT READS IS OF BULK AT MOST 1048576: true; the input reads as it did. -/
def windowMovesUptoRow : OpenClaim := { program := "ytmkjfpmailihjaa", sum := "2e6738108f3dad3719ba07494ac7e6b91b88e34f735374be64f60a6864f7d62c", func := "fusebox/fuseboxlaw11.WindowMoves", spec := "windowMoves", inPlace := ["math.archTrunc", "math.Float64bits", "math.Float64frombits"], unfollowed := true, recurses := true, apart := false, narrowed := true }
def WindowMovesUptoSaid : Prop := windowMovesUptoRow.holds Try.pinned (OpenSpec.upto windowMovesSpec)

end Rows
end Go.Proofs.Ytmkjfpmailihjaa
