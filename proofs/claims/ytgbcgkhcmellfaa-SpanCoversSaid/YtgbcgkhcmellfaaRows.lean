/-
  NARROWER THAN 'FOR EVERY INPUT', by the rows' own cells (each row's printed sentence says how): SpanRight: loops · SpanJoins: loops · SpanCovers: loops.
  DERIVED. THE GIVEN ROWS OF THIS SEAT. 3 by the template 'for every input the law returns true; each argument reads behind the call as it read before'; 0 by the template 'total and deterministic' (their statements: YtgbcgkhcmellfaaTotals.lean).
  GIVEN WITH THE SEED: the statements are not yours to turn. If you find one false, say at which input.
  Laid BY PROGRAM, IN A SANDBOX (cutbox-rows.mjs): the forced cells as the released guide's own fill.sh prints them over the translation 6d109f844f072ba6… (all of the seat's roots in one cut). By AI agents, Wed Nov 11 2026. No macro, syntax, notation, axiom, sorry.
-/
import Derived.Test.YtgbcgkhcmellfaaChecked
import GoSem.Claim
import GoSem.ClaimJoined
import GoSem.ClaimMapViews
import Derived.JoinedTies
import Derived.KernelRfl
namespace Go.Proofs.Ytgbcgkhcmellfaa
/- THE CELL 'sum', in the pinned program and in every row, IS THE sha256 OF THE DUMP (.gsa) THAT YtgbcgkhcmellfaaProg.lean LOADS. Nothing in Lean hashes anything: it is a label: what it is worth is what the hold of that sum in a sandbox is worth. -/
noncomputable def Try.pinned : Pinned := { name := "ytgbcgkhcmellfaa", sum := "6d109f844f072ba6e4cc3c587b2541f5c7f1ca4ef76d692d57d50ead0213ff4b", checked := Try.checked }
namespace Rows
def none {H : Type} : Left H := { results := [], args := [] }

/-- 'fuseboxlaw23.SpanRight': WHATEVER THE INPUT: true; the input reads as it did. -/
def spanRightSpec : ChangeSpec := { name := "spanRight", fn := fun _ => fun
  | [d1, d2, d3, d4] => { results := [.lit (.bool true)], args := [d1, d2, d3, d4] }
  | _ => none }
def spanRightRow : OpenClaim := { program := "ytgbcgkhcmellfaa", sum := "6d109f844f072ba6e4cc3c587b2541f5c7f1ca4ef76d692d57d50ead0213ff4b", func := "fusebox/fuseboxlaw23.SpanRight", spec := "spanRight", unfollowed := true, recurses := true, loops := true, apart := false }
def SpanRightSaid : Prop := spanRightRow.holds Try.pinned (OpenSpec.ofChange spanRightSpec)

/-- ITS FALSE NEIGHBOUR: 'it returns false'. Refute it at one input. -/
def spanRightWrong : ChangeSpec := { name := "spanRight", fn := fun _ => fun
  | [d1, d2, d3, d4] => { results := [.lit (.bool false)], args := [d1, d2, d3, d4] }
  | _ => none }
def SpanRightWrongFalsely : Prop := spanRightRow.holds Try.pinned (OpenSpec.ofChange spanRightWrong)

/-- 'fuseboxlaw23.SpanJoins': WHATEVER THE INPUT: true; the input reads as it did. -/
def spanJoinsSpec : ChangeSpec := { name := "spanJoins", fn := fun _ => fun
  | [d1, d2, d3, d4] => { results := [.lit (.bool true)], args := [d1, d2, d3, d4] }
  | _ => none }
def spanJoinsRow : OpenClaim := { program := "ytgbcgkhcmellfaa", sum := "6d109f844f072ba6e4cc3c587b2541f5c7f1ca4ef76d692d57d50ead0213ff4b", func := "fusebox/fuseboxlaw23.SpanJoins", spec := "spanJoins", unfollowed := true, recurses := true, loops := true, apart := false }
def SpanJoinsSaid : Prop := spanJoinsRow.holds Try.pinned (OpenSpec.ofChange spanJoinsSpec)

/-- ITS FALSE NEIGHBOUR: 'it returns false'. Refute it at one input. -/
def spanJoinsWrong : ChangeSpec := { name := "spanJoins", fn := fun _ => fun
  | [d1, d2, d3, d4] => { results := [.lit (.bool false)], args := [d1, d2, d3, d4] }
  | _ => none }
def SpanJoinsWrongFalsely : Prop := spanJoinsRow.holds Try.pinned (OpenSpec.ofChange spanJoinsWrong)

/-- 'fuseboxlaw23.SpanCovers': WHATEVER THE INPUT: true; the input reads as it did. -/
def spanCoversSpec : ChangeSpec := { name := "spanCovers", fn := fun _ => fun
  | [d1, d2, d3] => { results := [.lit (.bool true)], args := [d1, d2, d3] }
  | _ => none }
def spanCoversRow : OpenClaim := { program := "ytgbcgkhcmellfaa", sum := "6d109f844f072ba6e4cc3c587b2541f5c7f1ca4ef76d692d57d50ead0213ff4b", func := "fusebox/fuseboxlaw23.SpanCovers", spec := "spanCovers", unfollowed := true, recurses := true, loops := true, apart := false }
def SpanCoversSaid : Prop := spanCoversRow.holds Try.pinned (OpenSpec.ofChange spanCoversSpec)

/-- ITS FALSE NEIGHBOUR: 'it returns false'. Refute it at one input. -/
def spanCoversWrong : ChangeSpec := { name := "spanCovers", fn := fun _ => fun
  | [d1, d2, d3] => { results := [.lit (.bool false)], args := [d1, d2, d3] }
  | _ => none }
def SpanCoversWrongFalsely : Prop := spanCoversRow.holds Try.pinned (OpenSpec.ofChange spanCoversWrong)

/- THE SECOND FORM. 'bulk': how many values and letters a reading holds, each counted each time it is reached (what is shared counts as often as it is met; a slice's spare places count too). A statement '..UptoSaid' is the law's where the arguments, and the package variables that the reading takes, are together of bulk at most 1048576: NARROWER than '..Said'. Prove '..Said' where nothing that the law and all that it calls make is longer than what came in: it says more and counts as full. Else prove '..UptoSaid'. A law counts once. -/
mutual
def uptoBulk {H : Type} : DataW H → Nat
  | .lit (.string bytes) => bytes.length + 1
  | .lit _ => 1
  | .nil => 1
  | .ptr d => uptoBulk d + 1
  | .slice elems spare => uptoBulkAll elems + uptoBulkAll spare + 1
  | .agg parts => uptoBulkAll parts + 1
  | .iface _ d => uptoBulk d + 1
  | .map entries => uptoBulkEntries entries + 1
  | .held _ => 1
def uptoBulkAll {H : Type} : List (DataW H) → Nat
  | [] => 0
  | d :: r => uptoBulk d + uptoBulkAll r
def uptoBulkEntries {H : Type} : List (Lit × DataW H) → Nat
  | [] => 0
  | x :: r => uptoBulkEntry x + uptoBulkEntries r
def uptoBulkEntry {H : Type} : Lit × DataW H → Nat
  | (.string bytes, d) => bytes.length + uptoBulk d + 1
  | (_, d) => uptoBulk d + 1
 end
def uptoSmall : (H : Type) → List (DataW H) → Bool := fun _ ds => decide (uptoBulkAll ds ≤ 1048576)
def OpenSpec.upto (s : _root_.Go.ChangeSpec) : _root_.Go.OpenSpec := { _root_.Go.OpenSpec.ofChange s with cond := some uptoSmall }

/-- 'fuseboxlaw23.SpanRight', WHERE WHAT IT READS IS OF BULK AT MOST 1048576: true; the input reads as it did. -/
def spanRightUptoRow : OpenClaim := { program := "ytgbcgkhcmellfaa", sum := "6d109f844f072ba6e4cc3c587b2541f5c7f1ca4ef76d692d57d50ead0213ff4b", func := "fusebox/fuseboxlaw23.SpanRight", spec := "spanRight", unfollowed := true, recurses := true, loops := true, apart := false, narrowed := true }
def SpanRightUptoSaid : Prop := spanRightUptoRow.holds Try.pinned (OpenSpec.upto spanRightSpec)

/-- 'fuseboxlaw23.SpanJoins', WHERE WHAT IT READS IS OF BULK AT MOST 1048576: true; the input reads as it did. -/
def spanJoinsUptoRow : OpenClaim := { program := "ytgbcgkhcmellfaa", sum := "6d109f844f072ba6e4cc3c587b2541f5c7f1ca4ef76d692d57d50ead0213ff4b", func := "fusebox/fuseboxlaw23.SpanJoins", spec := "spanJoins", unfollowed := true, recurses := true, loops := true, apart := false, narrowed := true }
def SpanJoinsUptoSaid : Prop := spanJoinsUptoRow.holds Try.pinned (OpenSpec.upto spanJoinsSpec)

/-- 'fuseboxlaw23.SpanCovers', WHERE WHAT IT READS IS OF BULK AT MOST 1048576: true; the input reads as it did. -/
def spanCoversUptoRow : OpenClaim := { program := "ytgbcgkhcmellfaa", sum := "6d109f844f072ba6e4cc3c587b2541f5c7f1ca4ef76d692d57d50ead0213ff4b", func := "fusebox/fuseboxlaw23.SpanCovers", spec := "spanCovers", unfollowed := true, recurses := true, loops := true, apart := false, narrowed := true }
def SpanCoversUptoSaid : Prop := spanCoversUptoRow.holds Try.pinned (OpenSpec.upto spanCoversSpec)

end Rows
end Go.Proofs.Ytgbcgkhcmellfaa
