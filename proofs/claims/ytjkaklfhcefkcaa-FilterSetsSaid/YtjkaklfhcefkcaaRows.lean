/-
  NARROWER THAN 'FOR EVERY INPUT', by the rows' own cells (each row's printed sentence says how): FilterRight: loops · FilterSets: loops · FilterSelects: loops.
  DERIVED. THE GIVEN ROWS OF THIS SEAT. 3 by the template 'for every input the law returns true; each argument reads behind the call as it read before'; 0 by the template 'total and deterministic' (their statements: YtjkaklfhcefkcaaTotals.lean).
  GIVEN WITH THE SEED: the statements are not yours to turn. If you find one false, say at which input.
  Laid BY PROGRAM, IN A SANDBOX (cutbox-rows.mjs): the forced cells as the released guide's own fill.sh prints them over the translation df663febd3e049b3… (all of the seat's roots in one cut). By AI agents, Wed Nov 11 2026. No macro, syntax, notation, axiom, sorry.
-/
import Derived.Test.YtjkaklfhcefkcaaChecked
import GoSem.Claim
import GoSem.ClaimJoined
import GoSem.ClaimMapViews
import Derived.JoinedTies
import Derived.KernelRfl
namespace Go.Proofs.Ytjkaklfhcefkcaa
/- THE CELL 'sum', in the pinned program and in every row, IS THE sha256 OF THE DUMP (.gsa) THAT YtjkaklfhcefkcaaProg.lean LOADS. Nothing in Lean hashes anything: it is a label: what it is worth is what the hold of that sum in a sandbox is worth. -/
noncomputable def Try.pinned : Pinned := { name := "ytjkaklfhcefkcaa", sum := "df663febd3e049b3ebcd853d4c21ad2536bee5127b66d283aabb15c1b4c76afe", checked := Try.checked }
namespace Rows
def none {H : Type} : Left H := { results := [], args := [] }

/-- 'fuseboxlaw21.FilterRight': WHATEVER THE INPUT: true; the input reads as it did. -/
def filterRightSpec : ChangeSpec := { name := "filterRight", fn := fun _ => fun
  | [d1, d2, d3] => { results := [.lit (.bool true)], args := [d1, d2, d3] }
  | _ => none }
def filterRightRow : OpenClaim := { program := "ytjkaklfhcefkcaa", sum := "df663febd3e049b3ebcd853d4c21ad2536bee5127b66d283aabb15c1b4c76afe", func := "fusebox/fuseboxlaw21.FilterRight", spec := "filterRight", unfollowed := true, recurses := true, loops := true, apart := false }
def FilterRightSaid : Prop := filterRightRow.holds Try.pinned (OpenSpec.ofChange filterRightSpec)

/-- ITS FALSE NEIGHBOUR: 'it returns false'. Refute it at one input. -/
def filterRightWrong : ChangeSpec := { name := "filterRight", fn := fun _ => fun
  | [d1, d2, d3] => { results := [.lit (.bool false)], args := [d1, d2, d3] }
  | _ => none }
def FilterRightWrongFalsely : Prop := filterRightRow.holds Try.pinned (OpenSpec.ofChange filterRightWrong)

/-- 'fuseboxlaw21.FilterSets': WHATEVER THE INPUT: true; the input reads as it did. -/
def filterSetsSpec : ChangeSpec := { name := "filterSets", fn := fun _ => fun
  | [d1, d2, d3] => { results := [.lit (.bool true)], args := [d1, d2, d3] }
  | _ => none }
def filterSetsRow : OpenClaim := { program := "ytjkaklfhcefkcaa", sum := "df663febd3e049b3ebcd853d4c21ad2536bee5127b66d283aabb15c1b4c76afe", func := "fusebox/fuseboxlaw21.FilterSets", spec := "filterSets", unfollowed := true, recurses := true, loops := true, apart := false }
def FilterSetsSaid : Prop := filterSetsRow.holds Try.pinned (OpenSpec.ofChange filterSetsSpec)

/-- ITS FALSE NEIGHBOUR: 'it returns false'. Refute it at one input. -/
def filterSetsWrong : ChangeSpec := { name := "filterSets", fn := fun _ => fun
  | [d1, d2, d3] => { results := [.lit (.bool false)], args := [d1, d2, d3] }
  | _ => none }
def FilterSetsWrongFalsely : Prop := filterSetsRow.holds Try.pinned (OpenSpec.ofChange filterSetsWrong)

/-- 'fuseboxlaw21.FilterSelects': WHATEVER THE INPUT: true; the input reads as it did. -/
def filterSelectsSpec : ChangeSpec := { name := "filterSelects", fn := fun _ => fun
  | [d1, d2, d3] => { results := [.lit (.bool true)], args := [d1, d2, d3] }
  | _ => none }
def filterSelectsRow : OpenClaim := { program := "ytjkaklfhcefkcaa", sum := "df663febd3e049b3ebcd853d4c21ad2536bee5127b66d283aabb15c1b4c76afe", func := "fusebox/fuseboxlaw21.FilterSelects", spec := "filterSelects", unfollowed := true, recurses := true, loops := true, apart := false }
def FilterSelectsSaid : Prop := filterSelectsRow.holds Try.pinned (OpenSpec.ofChange filterSelectsSpec)

/-- ITS FALSE NEIGHBOUR: 'it returns false'. Refute it at one input. -/
def filterSelectsWrong : ChangeSpec := { name := "filterSelects", fn := fun _ => fun
  | [d1, d2, d3] => { results := [.lit (.bool false)], args := [d1, d2, d3] }
  | _ => none }
def FilterSelectsWrongFalsely : Prop := filterSelectsRow.holds Try.pinned (OpenSpec.ofChange filterSelectsWrong)

/- THE SECOND FORM. 'bulk': how many values and letters a reading holds, each counted each time it is reached (what is shared counts as often as it is met; a slice's spare places count too). A statement '..UptoSaid' is the law's where the arguments, and the package variables that the reading takes, are together of bulk at most 1048576: NARROWER than '..Said'. Prove '..Said' where nothing that the law and all that it calls make is longer than what came in: it says more and counts as full. Else prove '..UptoSaid'. A law counts once. -/
mutual
def uptoBulk {H : Type} : DataW H → Nat
  | .lit (.string bytes) => bytes.length + 1
  | .lit _ => 1
  | .nil => 1
  | .ptr d => uptoBulk d + 1
  | .slice elems spare => uptoBulkAll elems + uptoBulkAll spare + 1
  | .agg parts => uptoBulkAll parts + 1
  | .iface _ d => uptoBulk d + 1
  | .map entries => uptoBulkEntries entries + 1
  | .held _ => 1
def uptoBulkAll {H : Type} : List (DataW H) → Nat
  | [] => 0
  | d :: r => uptoBulk d + uptoBulkAll r
def uptoBulkEntries {H : Type} : List (Lit × DataW H) → Nat
  | [] => 0
  | x :: r => uptoBulkEntry x + uptoBulkEntries r
def uptoBulkEntry {H : Type} : Lit × DataW H → Nat
  | (.string bytes, d) => bytes.length + uptoBulk d + 1
  | (_, d) => uptoBulk d + 1
 end
def uptoSmall : (H : Type) → List (DataW H) → Bool := fun _ ds => decide (uptoBulkAll ds ≤ 1048576)
def OpenSpec.upto (s : _root_.Go.ChangeSpec) : _root_.Go.OpenSpec := { _root_.Go.OpenSpec.ofChange s with cond := some uptoSmall }

/-- 'fuseboxlaw21.FilterRight', WHERE WHAT IT READS IS OF BULK AT MOST 1048576: true; the input reads as it did. -/
def filterRightUptoRow : OpenClaim := { program := "ytjkaklfhcefkcaa", sum := "df663febd3e049b3ebcd853d4c21ad2536bee5127b66d283aabb15c1b4c76afe", func := "fusebox/fuseboxlaw21.FilterRight", spec := "filterRight", unfollowed := true, recurses := true, loops := true, apart := false, narrowed := true }
def FilterRightUptoSaid : Prop := filterRightUptoRow.holds Try.pinned (OpenSpec.upto filterRightSpec)

/-- 'fuseboxlaw21.FilterSets', WHERE WHAT IT READS IS OF BULK AT MOST 1048576: true; the input reads as it did. -/
def filterSetsUptoRow : OpenClaim := { program := "ytjkaklfhcefkcaa", sum := "df663febd3e049b3ebcd853d4c21ad2536bee5127b66d283aabb15c1b4c76afe", func := "fusebox/fuseboxlaw21.FilterSets", spec := "filterSets", unfollowed := true, recurses := true, loops := true, apart := false, narrowed := true }
def FilterSetsUptoSaid : Prop := filterSetsUptoRow.holds Try.pinned (OpenSpec.upto filterSetsSpec)

/-- 'fuseboxlaw21.FilterSelects', WHERE WHAT IT READS IS OF BULK AT MOST 1048576: true; the input reads as it did. -/
def filterSelectsUptoRow : OpenClaim := { program := "ytjkaklfhcefkcaa", sum := "df663febd3e049b3ebcd853d4c21ad2536bee5127b66d283aabb15c1b4c76afe", func := "fusebox/fuseboxlaw21.FilterSelects", spec := "filterSelects", unfollowed := true, recurses := true, loops := true, apart := false, narrowed := true }
def FilterSelectsUptoSaid : Prop := filterSelectsUptoRow.holds Try.pinned (OpenSpec.upto filterSelectsSpec)

end Rows
end Go.Proofs.Ytjkaklfhcefkcaa
