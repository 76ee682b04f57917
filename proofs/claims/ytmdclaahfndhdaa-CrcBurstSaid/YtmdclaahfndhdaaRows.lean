/-
  No cell of these rows narrows 'for every input' (looked for: loops, veiled, ifaces, maps, wideKeys, modest, calm, conditions, laid).
  DERIVED. THE GIVEN ROWS OF THIS SEAT. 12 by the template 'for every input the law returns true; each argument reads behind the call as it read before'; 0 by the template 'total and deterministic' (their statements: YtmdclaahfndhdaaTotals.lean).
  GIVEN WITH THE SEED: the statements are not yours to turn. If you find one false, say at which input.
  Laid BY PROGRAM, IN A SANDBOX (cutbox-rows.mjs): the forced cells as the released guide's own fill.sh prints them over the translation 0bfc55cf2080930b… (all of the seat's roots in one cut). By AI agents, Wed Nov 11 2026. No macro, syntax, notation, axiom, sorry.
-/
import Derived.Test.YtmdclaahfndhdaaChecked
import GoSem.Claim
import GoSem.ClaimJoined
import GoSem.ClaimMapViews
import Derived.JoinedTies
import Derived.KernelRfl
namespace Go.Proofs.Ytmdclaahfndhdaa
/- THE CELL 'sum', in the pinned program and in every row, IS THE sha256 OF THE DUMP (.gsa) THAT YtmdclaahfndhdaaProg.lean LOADS. Nothing in Lean hashes anything: it is a label: what it is worth is what the hold of that sum in a sandbox is worth. -/
noncomputable def Try.pinned : Pinned := { name := "ytmdclaahfndhdaa", sum := "0bfc55cf2080930b63b26efa36d25dab134d27a4ddf8c59c3e2511a8dc64e78d", checked := Try.checked }
namespace Rows
def none {H : Type} : Left H := { results := [], args := [] }

/-- 'fuseboxlaw01.CountRight': WHATEVER THE INPUT: true; the input reads as it did. -/
def countRightSpec : ChangeSpec := { name := "countRight", fn := fun _ => fun
  | [d1, d2, d3] => { results := [.lit (.bool true)], args := [d1, d2, d3] }
  | _ => none }
def countRightRow : OpenClaim := { program := "ytmdclaahfndhdaa", sum := "0bfc55cf2080930b63b26efa36d25dab134d27a4ddf8c59c3e2511a8dc64e78d", func := "fusebox/fuseboxlaw01.CountRight", spec := "countRight", apart := false }
def CountRightSaid : Prop := countRightRow.holds Try.pinned (OpenSpec.ofChange countRightSpec)

/-- ITS FALSE NEIGHBOUR: 'it returns false'. Refute it at one input. -/
def countRightWrong : ChangeSpec := { name := "countRight", fn := fun _ => fun
  | [d1, d2, d3] => { results := [.lit (.bool false)], args := [d1, d2, d3] }
  | _ => none }
def CountRightWrongFalsely : Prop := countRightRow.holds Try.pinned (OpenSpec.ofChange countRightWrong)

/-- 'fuseboxlaw01.CountBack': WHATEVER THE INPUT: true; the input reads as it did. -/
def countBackSpec : ChangeSpec := { name := "countBack", fn := fun _ => fun
  | [d1, d2] => { results := [.lit (.bool true)], args := [d1, d2] }
  | _ => none }
def countBackRow : OpenClaim := { program := "ytmdclaahfndhdaa", sum := "0bfc55cf2080930b63b26efa36d25dab134d27a4ddf8c59c3e2511a8dc64e78d", func := "fusebox/fuseboxlaw01.CountBack", spec := "countBack", apart := false }
def CountBackSaid : Prop := countBackRow.holds Try.pinned (OpenSpec.ofChange countBackSpec)

/-- ITS FALSE NEIGHBOUR: 'it returns false'. Refute it at one input. -/
def countBackWrong : ChangeSpec := { name := "countBack", fn := fun _ => fun
  | [d1, d2] => { results := [.lit (.bool false)], args := [d1, d2] }
  | _ => none }
def CountBackWrongFalsely : Prop := countBackRow.holds Try.pinned (OpenSpec.ofChange countBackWrong)

/-- 'fuseboxlaw01.CountTotal': WHATEVER THE INPUT: true; the input reads as it did. -/
def countTotalSpec : ChangeSpec := { name := "countTotal", fn := fun _ => fun
  | [d1, d2] => { results := [.lit (.bool true)], args := [d1, d2] }
  | _ => none }
def countTotalRow : OpenClaim := { program := "ytmdclaahfndhdaa", sum := "0bfc55cf2080930b63b26efa36d25dab134d27a4ddf8c59c3e2511a8dc64e78d", func := "fusebox/fuseboxlaw01.CountTotal", spec := "countTotal", apart := false }
def CountTotalSaid : Prop := countTotalRow.holds Try.pinned (OpenSpec.ofChange countTotalSpec)

/-- ITS FALSE NEIGHBOUR: 'it returns false'. Refute it at one input. -/
def countTotalWrong : ChangeSpec := { name := "countTotal", fn := fun _ => fun
  | [d1, d2] => { results := [.lit (.bool false)], args := [d1, d2] }
  | _ => none }
def CountTotalWrongFalsely : Prop := countTotalRow.holds Try.pinned (OpenSpec.ofChange countTotalWrong)

/-- 'fuseboxlaw06.NamesRight': WHATEVER THE INPUT: true; the input reads as it did. -/
def namesRightSpec : ChangeSpec := { name := "namesRight", fn := fun _ => fun
  | [d1, d2, d3] => { results := [.lit (.bool true)], args := [d1, d2, d3] }
  | _ => none }
def namesRightRow : OpenClaim := { program := "ytmdclaahfndhdaa", sum := "0bfc55cf2080930b63b26efa36d25dab134d27a4ddf8c59c3e2511a8dc64e78d", func := "fusebox/fuseboxlaw06.NamesRight", spec := "namesRight", unfollowed := true, recurses := true, apart := false }
def NamesRightSaid : Prop := namesRightRow.holds Try.pinned (OpenSpec.ofChange namesRightSpec)

/-- ITS FALSE NEIGHBOUR: 'it returns false'. Refute it at one input. -/
def namesRightWrong : ChangeSpec := { name := "namesRight", fn := fun _ => fun
  | [d1, d2, d3] => { results := [.lit (.bool false)], args := [d1, d2, d3] }
  | _ => none }
def NamesRightWrongFalsely : Prop := namesRightRow.holds Try.pinned (OpenSpec.ofChange namesRightWrong)

/-- 'fuseboxlaw06.NamesPlaces': WHATEVER THE INPUT: true; the input reads as it did. -/
def namesPlacesSpec : ChangeSpec := { name := "namesPlaces", fn := fun _ => fun
  | [d] => { results := [.lit (.bool true)], args := [d] }
  | _ => none }
def namesPlacesRow : OpenClaim := { program := "ytmdclaahfndhdaa", sum := "0bfc55cf2080930b63b26efa36d25dab134d27a4ddf8c59c3e2511a8dc64e78d", func := "fusebox/fuseboxlaw06.NamesPlaces", spec := "namesPlaces", unfollowed := true, recurses := true, apart := false }
def NamesPlacesSaid : Prop := namesPlacesRow.holds Try.pinned (OpenSpec.ofChange namesPlacesSpec)

/-- ITS FALSE NEIGHBOUR: 'it returns false'. Refute it at one input. -/
def namesPlacesWrong : ChangeSpec := { name := "namesPlaces", fn := fun _ => fun
  | [d] => { results := [.lit (.bool false)], args := [d] }
  | _ => none }
def NamesPlacesWrongFalsely : Prop := namesPlacesRow.holds Try.pinned (OpenSpec.ofChange namesPlacesWrong)

/-- 'fuseboxlaw04.CrcRight': WHATEVER THE INPUT: true; the input reads as it did. -/
def crcRightSpec : ChangeSpec := { name := "crcRight", fn := fun _ => fun
  | [d1, d2, d3] => { results := [.lit (.bool true)], args := [d1, d2, d3] }
  | _ => none }
def crcRightRow : OpenClaim := { program := "ytmdclaahfndhdaa", sum := "0bfc55cf2080930b63b26efa36d25dab134d27a4ddf8c59c3e2511a8dc64e78d", func := "fusebox/fuseboxlaw04.CrcRight", spec := "crcRight", apart := false }
def CrcRightSaid : Prop := crcRightRow.holds Try.pinned (OpenSpec.ofChange crcRightSpec)

/-- ITS FALSE NEIGHBOUR: 'it returns false'. Refute it at one input. -/
def crcRightWrong : ChangeSpec := { name := "crcRight", fn := fun _ => fun
  | [d1, d2, d3] => { results := [.lit (.bool false)], args := [d1, d2, d3] }
  | _ => none }
def CrcRightWrongFalsely : Prop := crcRightRow.holds Try.pinned (OpenSpec.ofChange crcRightWrong)

/-- 'fuseboxlaw04.CrcTable': WHATEVER THE INPUT: true; the input reads as it did. -/
def crcTableSpec : ChangeSpec := { name := "crcTable", fn := fun _ => fun
  | [d] => { results := [.lit (.bool true)], args := [d] }
  | _ => none }
def crcTableRow : OpenClaim := { program := "ytmdclaahfndhdaa", sum := "0bfc55cf2080930b63b26efa36d25dab134d27a4ddf8c59c3e2511a8dc64e78d", func := "fusebox/fuseboxlaw04.CrcTable", spec := "crcTable", apart := false }
def CrcTableSaid : Prop := crcTableRow.holds Try.pinned (OpenSpec.ofChange crcTableSpec)

/-- ITS FALSE NEIGHBOUR: 'it returns false'. Refute it at one input. -/
def crcTableWrong : ChangeSpec := { name := "crcTable", fn := fun _ => fun
  | [d] => { results := [.lit (.bool false)], args := [d] }
  | _ => none }
def CrcTableWrongFalsely : Prop := crcTableRow.holds Try.pinned (OpenSpec.ofChange crcTableWrong)

/-- 'fuseboxlaw04.CrcBack': WHATEVER THE INPUT: true; the input reads as it did. -/
def crcBackSpec : ChangeSpec := { name := "crcBack", fn := fun _ => fun
  | [d1, d2, d3, d4, d5] => { results := [.lit (.bool true)], args := [d1, d2, d3, d4, d5] }
  | _ => none }
def crcBackRow : OpenClaim := { program := "ytmdclaahfndhdaa", sum := "0bfc55cf2080930b63b26efa36d25dab134d27a4ddf8c59c3e2511a8dc64e78d", func := "fusebox/fuseboxlaw04.CrcBack", spec := "crcBack", apart := false }
def CrcBackSaid : Prop := crcBackRow.holds Try.pinned (OpenSpec.ofChange crcBackSpec)

/-- ITS FALSE NEIGHBOUR: 'it returns false'. Refute it at one input. -/
def crcBackWrong : ChangeSpec := { name := "crcBack", fn := fun _ => fun
  | [d1, d2, d3, d4, d5] => { results := [.lit (.bool false)], args := [d1, d2, d3, d4, d5] }
  | _ => none }
def CrcBackWrongFalsely : Prop := crcBackRow.holds Try.pinned (OpenSpec.ofChange crcBackWrong)

/-- 'fuseboxlaw04.CrcBurst': WHATEVER THE INPUT: true; the input reads as it did. -/
def crcBurstSpec : ChangeSpec := { name := "crcBurst", fn := fun _ => fun
  | [d1, d2, d3] => { results := [.lit (.bool true)], args := [d1, d2, d3] }
  | _ => none }
def crcBurstRow : OpenClaim := { program := "ytmdclaahfndhdaa", sum := "0bfc55cf2080930b63b26efa36d25dab134d27a4ddf8c59c3e2511a8dc64e78d", func := "fusebox/fuseboxlaw04.CrcBurst", spec := "crcBurst", apart := false }
def CrcBurstSaid : Prop := crcBurstRow.holds Try.pinned (OpenSpec.ofChange crcBurstSpec)

/-- ITS FALSE NEIGHBOUR: 'it returns false'. Refute it at one input. -/
def crcBurstWrong : ChangeSpec := { name := "crcBurst", fn := fun _ => fun
  | [d1, d2, d3] => { results := [.lit (.bool false)], args := [d1, d2, d3] }
  | _ => none }
def CrcBurstWrongFalsely : Prop := crcBurstRow.holds Try.pinned (OpenSpec.ofChange crcBurstWrong)

/-- 'fuseboxlaw13.HistRight': WHATEVER THE INPUT: true; the input reads as it did. -/
def histRightSpec : ChangeSpec := { name := "histRight", fn := fun _ => fun
  | [d1, d2, d3, d4] => { results := [.lit (.bool true)], args := [d1, d2, d3, d4] }
  | _ => none }
def histRightRow : OpenClaim := { program := "ytmdclaahfndhdaa", sum := "0bfc55cf2080930b63b26efa36d25dab134d27a4ddf8c59c3e2511a8dc64e78d", func := "fusebox/fuseboxlaw13.HistRight", spec := "histRight", apart := false }
def HistRightSaid : Prop := histRightRow.holds Try.pinned (OpenSpec.ofChange histRightSpec)

/-- ITS FALSE NEIGHBOUR: 'it returns false'. Refute it at one input. -/
def histRightWrong : ChangeSpec := { name := "histRight", fn := fun _ => fun
  | [d1, d2, d3, d4] => { results := [.lit (.bool false)], args := [d1, d2, d3, d4] }
  | _ => none }
def HistRightWrongFalsely : Prop := histRightRow.holds Try.pinned (OpenSpec.ofChange histRightWrong)

/-- 'fuseboxlaw13.HistGrows': WHATEVER THE INPUT: true; the input reads as it did. -/
def histGrowsSpec : ChangeSpec := { name := "histGrows", fn := fun _ => fun
  | [d1, d2] => { results := [.lit (.bool true)], args := [d1, d2] }
  | _ => none }
def histGrowsRow : OpenClaim := { program := "ytmdclaahfndhdaa", sum := "0bfc55cf2080930b63b26efa36d25dab134d27a4ddf8c59c3e2511a8dc64e78d", func := "fusebox/fuseboxlaw13.HistGrows", spec := "histGrows", apart := false }
def HistGrowsSaid : Prop := histGrowsRow.holds Try.pinned (OpenSpec.ofChange histGrowsSpec)

/-- ITS FALSE NEIGHBOUR: 'it returns false'. Refute it at one input. -/
def histGrowsWrong : ChangeSpec := { name := "histGrows", fn := fun _ => fun
  | [d1, d2] => { results := [.lit (.bool false)], args := [d1, d2] }
  | _ => none }
def HistGrowsWrongFalsely : Prop := histGrowsRow.holds Try.pinned (OpenSpec.ofChange histGrowsWrong)

/-- 'fuseboxlaw13.HistOrder': WHATEVER THE INPUT: true; the input reads as it did. -/
def histOrderSpec : ChangeSpec := { name := "histOrder", fn := fun _ => fun
  | [d1, d2] => { results := [.lit (.bool true)], args := [d1, d2] }
  | _ => none }
def histOrderRow : OpenClaim := { program := "ytmdclaahfndhdaa", sum := "0bfc55cf2080930b63b26efa36d25dab134d27a4ddf8c59c3e2511a8dc64e78d", func := "fusebox/fuseboxlaw13.HistOrder", spec := "histOrder", apart := false }
def HistOrderSaid : Prop := histOrderRow.holds Try.pinned (OpenSpec.ofChange histOrderSpec)

/-- ITS FALSE NEIGHBOUR: 'it returns false'. Refute it at one input. -/
def histOrderWrong : ChangeSpec := { name := "histOrder", fn := fun _ => fun
  | [d1, d2] => { results := [.lit (.bool false)], args := [d1, d2] }
  | _ => none }
def HistOrderWrongFalsely : Prop := histOrderRow.holds Try.pinned (OpenSpec.ofChange histOrderWrong)

/- THE SECOND FORM. 'bulk': how many values and letters a reading holds, each counted each time it is reached (what is shared counts as often as it is met; a slice's spare places count too). A statement '..UptoSaid' is the law's where the arguments, and the package variables that the reading takes, are together of bulk at most 1048576: NARROWER than '..Said'. Prove '..Said' where nothing that the law and all that it calls make is longer than what came in: it says more and counts as full. Else prove '..UptoSaid'. A law counts once. -/
mutual
def uptoBulk {H : Type} : DataW H → Nat
  | .lit (.string bytes) => bytes.length + 1
  | .lit _ => 1
  | .nil => 1
  | .ptr d => uptoBulk d + 1
  | .slice elems spare => uptoBulkAll elems + uptoBulkAll spare + 1
  | .agg parts => uptoBulkAll parts + 1
  | .iface _ d => uptoBulk d + 1
  | .map entries => uptoBulkEntries entries + 1
  | .held _ => 1
def uptoBulkAll {H : Type} : List (DataW H) → Nat
  | [] => 0
  | d :: r => uptoBulk d + uptoBulkAll r
def uptoBulkEntries {H : Type} : List (Lit × DataW H) → Nat
  | [] => 0
  | x :: r => uptoBulkEntry x + uptoBulkEntries r
def uptoBulkEntry {H : Type} : Lit × DataW H → Nat
  | (.string bytes, d) => bytes.length + uptoBulk d + 1
  | (_, d) => uptoBulk d + 1
 end
def uptoSmall : (H : Type) → List (DataW H) → Bool := fun _ ds => decide (uptoBulkAll ds ≤ 1048576)
def OpenSpec.upto (s : _root_.Go.ChangeSpec) : _root_.Go.OpenSpec := { _root_.Go.OpenSpec.ofChange s with cond := some uptoSmall }

/-- 'fuseboxlaw01.CountRight', WHERE WHAT IT READS IS OF BULK AT MOST 1048576: true; the input reads as it did. -/
def countRightUptoRow : OpenClaim := { program := "ytmdclaahfndhdaa", sum := "0bfc55cf2080930b63b26efa36d25dab134d27a4ddf8c59c3e2511a8dc64e78d", func := "fusebox/fuseboxlaw01.CountRight", spec := "countRight", apart := false, narrowed := true }
def CountRightUptoSaid : Prop := countRightUptoRow.holds Try.pinned (OpenSpec.upto countRightSpec)

/-- 'fuseboxlaw01.CountBack', WHERE WHAT IT READS IS OF BULK AT MOST 1048576: true; the input reads as it did. -/
def countBackUptoRow : OpenClaim := { program := "ytmdclaahfndhdaa", sum := "0bfc55cf2080930b63b26efa36d25dab134d27a4ddf8c59c3e2511a8dc64e78d", func := "fusebox/fuseboxlaw01.CountBack", spec := "countBack", apart := false, narrowed := true }
def CountBackUptoSaid : Prop := countBackUptoRow.holds Try.pinned (OpenSpec.upto countBackSpec)

/-- 'fuseboxlaw01.CountTotal', WHERE WHAT IT READS IS OF BULK AT MOST 1048576: true; the input reads as it did. -/
def countTotalUptoRow : OpenClaim := { program := "ytmdclaahfndhdaa", sum := "0bfc55cf2080930b63b26efa36d25dab134d27a4ddf8c59c3e2511a8dc64e78d", func := "fusebox/fuseboxlaw01.CountTotal", spec := "countTotal", apart := false, narrowed := true }
def CountTotalUptoSaid : Prop := countTotalUptoRow.holds Try.pinned (OpenSpec.upto countTotalSpec)

/-- 'fuseboxlaw06.NamesRight', WHERE WHAT IT READS IS OF BULK AT MOST 1048576: true; the input reads as it did. -/
def namesRightUptoRow : OpenClaim := { program := "ytmdclaahfndhdaa", sum := "0bfc55cf2080930b63b26efa36d25dab134d27a4ddf8c59c3e2511a8dc64e78d", func := "fusebox/fuseboxlaw06.NamesRight", spec := "namesRight", unfollowed := true, recurses := true, apart := false, narrowed := true }
def NamesRightUptoSaid : Prop := namesRightUptoRow.holds Try.pinned (OpenSpec.upto namesRightSpec)

/-- 'fuseboxlaw06.NamesPlaces', WHERE WHAT IT READS IS OF BULK AT MOST 1048576: true; the input reads as it did. -/
def namesPlacesUptoRow : OpenClaim := { program := "ytmdclaahfndhdaa", sum := "0bfc55cf2080930b63b26efa36d25dab134d27a4ddf8c59c3e2511a8dc64e78d", func := "fusebox/fuseboxlaw06.NamesPlaces", spec := "namesPlaces", unfollowed := true, recurses := true, apart := false, narrowed := true }
def NamesPlacesUptoSaid : Prop := namesPlacesUptoRow.holds Try.pinned (OpenSpec.upto namesPlacesSpec)

/-- 'fuseboxlaw04.CrcRight', WHERE WHAT IT READS IS OF BULK AT MOST 1048576: true; the input reads as it did. -/
def crcRightUptoRow : OpenClaim := { program := "ytmdclaahfndhdaa", sum := "0bfc55cf2080930b63b26efa36d25dab134d27a4ddf8c59c3e2511a8dc64e78d", func := "fusebox/fuseboxlaw04.CrcRight", spec := "crcRight", apart := false, narrowed := true }
def CrcRightUptoSaid : Prop := crcRightUptoRow.holds Try.pinned (OpenSpec.upto crcRightSpec)

/-- 'fuseboxlaw04.CrcTable', WHERE WHAT IT READS IS OF BULK AT MOST 1048576: true; the input reads as it did. -/
def crcTableUptoRow : OpenClaim := { program := "ytmdclaahfndhdaa", sum := "0bfc55cf2080930b63b26efa36d25dab134d27a4ddf8c59c3e2511a8dc64e78d", func := "fusebox/fuseboxlaw04.CrcTable", spec := "crcTable", apart := false, narrowed := true }
def CrcTableUptoSaid : Prop := crcTableUptoRow.holds Try.pinned (OpenSpec.upto crcTableSpec)

/-- 'fuseboxlaw04.CrcBack', WHERE WHAT IT READS IS OF BULK AT MOST 1048576: true; the input reads as it did. -/
def crcBackUptoRow : OpenClaim := { program := "ytmdclaahfndhdaa", sum := "0bfc55cf2080930b63b26efa36d25dab134d27a4ddf8c59c3e2511a8dc64e78d", func := "fusebox/fuseboxlaw04.CrcBack", spec := "crcBack", apart := false, narrowed := true }
def CrcBackUptoSaid : Prop := crcBackUptoRow.holds Try.pinned (OpenSpec.upto crcBackSpec)

/-- 'fuseboxlaw04.CrcBurst', WHERE WHAT IT READS IS OF BULK AT MOST 1048576: true; the input reads as it did. -/
def crcBurstUptoRow : OpenClaim := { program := "ytmdclaahfndhdaa", sum := "0bfc55cf2080930b63b26efa36d25dab134d27a4ddf8c59c3e2511a8dc64e78d", func := "fusebox/fuseboxlaw04.CrcBurst", spec := "crcBurst", apart := false, narrowed := true }
def CrcBurstUptoSaid : Prop := crcBurstUptoRow.holds Try.pinned (OpenSpec.upto crcBurstSpec)

/-- 'fuseboxlaw13.HistRight', WHERE WHAT IT READS IS OF BULK AT MOST 1048576: true; the input reads as it did. -/
def histRightUptoRow : OpenClaim := { program := "ytmdclaahfndhdaa", sum := "0bfc55cf2080930b63b26efa36d25dab134d27a4ddf8c59c3e2511a8dc64e78d", func := "fusebox/fuseboxlaw13.HistRight", spec := "histRight", apart := false, narrowed := true }
def HistRightUptoSaid : Prop := histRightUptoRow.holds Try.pinned (OpenSpec.upto histRightSpec)

/-- 'fuseboxlaw13.HistGrows', WHERE WHAT IT READS IS OF BULK AT MOST 1048576: true; the input reads as it did. -/
def histGrowsUptoRow : OpenClaim := { program := "ytmdclaahfndhdaa", sum := "0bfc55cf2080930b63b26efa36d25dab134d27a4ddf8c59c3e2511a8dc64e78d", func := "fusebox/fuseboxlaw13.HistGrows", spec := "histGrows", apart := false, narrowed := true }
def HistGrowsUptoSaid : Prop := histGrowsUptoRow.holds Try.pinned (OpenSpec.upto histGrowsSpec)

/-- 'fuseboxlaw13.HistOrder', WHERE WHAT IT READS IS OF BULK AT MOST 1048576: true; the input reads as it did. -/
def histOrderUptoRow : OpenClaim := { program := "ytmdclaahfndhdaa", sum := "0bfc55cf2080930b63b26efa36d25dab134d27a4ddf8c59c3e2511a8dc64e78d", func := "fusebox/fuseboxlaw13.HistOrder", spec := "histOrder", apart := false, narrowed := true }
def HistOrderUptoSaid : Prop := histOrderUptoRow.holds Try.pinned (OpenSpec.upto histOrderSpec)

end Rows
end Go.Proofs.Ytmdclaahfndhdaa
