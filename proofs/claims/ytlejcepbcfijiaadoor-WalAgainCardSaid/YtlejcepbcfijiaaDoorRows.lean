/-
  NARROWER THAN 'FOR EVERY INPUT', by the rows' own cells (each row's printed sentence says how): MetaKeeps: laid · MetaWrites: laid · MetaPlays: laid · WalPlaces: laid · WalAgain: laid.
  DERIVED. THE GIVEN ROWS OF THIS SEAT. 5 by the template 'for every input the law returns true; each argument reads behind the call as it read before'; 0 by the template 'total and deterministic' (their statements: YtlejcepbcfijiaaDoorTotals.lean).
  GIVEN WITH THE SEED: the statements are not yours to turn. If you find one false, say at which input.
  Laid BY PROGRAM, IN A SANDBOX (cutbox-rows.mjs): the forced cells as the released guide's own fill.sh prints them over the translation d783622a9a64ac4b… (all of the seat's roots in one cut). By AI agents, Wed Nov 11 2026. No macro, syntax, notation, axiom, sorry.
-/
import Derived.Test.YtlejcepbcfijiaaDoorChecked
import GoSem.Claim
import GoSem.ClaimJoined
import GoSem.ClaimMapViews
import Derived.JoinedTies
import Derived.KernelRfl
namespace Go.Proofs.YtlejcepbcfijiaaDoor
/- THE CELL 'sum', in the pinned program and in every row, IS THE sha256 OF THE DUMP (.gsa) THAT YtlejcepbcfijiaaDoorProg.lean LOADS. Nothing in Lean hashes anything: it is a label: what it is worth is what the hold of that sum in a sandbox is worth. -/
noncomputable def Tryd.pinned : Pinned := { name := "ytlejcepbcfijiaadoor", sum := "d783622a9a64ac4bad7f25fbd22ef4a48691216fe728fcbff22657acb40947ad", checked := Tryd.checked }
namespace Rows
def none {H : Type} : Left H := { results := [], args := [] }

/- WHAT THE LISTED PACKAGE-LEVEL VARIABLES READ AS WHEN THE CALL BEGINS. Each datum BY PROGRAM (the guide's laid-datum.mjs) off the statement by which the dump's own 'gosem.cut.vars' lays the variable. In a bare row this is a premise. The card (YtlejcepbcfijiaaDoorCards.lean) ties it to the program's text. -/
def laid_lapstone_num_bits {H : Type} : DataW H := .agg [.lit (.int .u64 0), .lit (.int .u64 8), .lit (.int .u64 16), .lit (.int .u64 24), .lit (.int .u64 32), .lit (.int .u64 40), .lit (.int .u64 48), .lit (.int .u64 56), .lit (.int .u64 64)]

/-- 'lapstonelaw12.MetaKeeps': WHATEVER THE INPUT: true; the input reads as it did. -/
def metaKeepsSpec : ChangeSpec := { name := "metaKeeps", fn := fun _ => fun
  | [d] => { results := [.lit (.bool true)], args := [d] }
  | _ => none }
def metaKeepsRow : OpenClaim := { program := "ytlejcepbcfijiaadoor", sum := "d783622a9a64ac4bad7f25fbd22ef4a48691216fe728fcbff22657acb40947ad", func := "lapstone/lapstonelaw12.MetaKeeps", spec := "metaKeeps", unfollowed := true, recurses := true, named := ["lapstone/num.bits"], apart := false, laid := [("lapstone/num.bits", laid_lapstone_num_bits)] }
def MetaKeepsSaid : Prop := metaKeepsRow.holds Tryd.pinned (OpenSpec.ofChange metaKeepsSpec)

/-- ITS FALSE NEIGHBOUR: 'it returns false'. Refute it at one input. -/
def metaKeepsWrong : ChangeSpec := { name := "metaKeeps", fn := fun _ => fun
  | [d] => { results := [.lit (.bool false)], args := [d] }
  | _ => none }
def MetaKeepsWrongFalsely : Prop := metaKeepsRow.holds Tryd.pinned (OpenSpec.ofChange metaKeepsWrong)

/-- 'lapstonelaw12.MetaWrites': WHATEVER THE INPUT: true; the input reads as it did. -/
def metaWritesSpec : ChangeSpec := { name := "metaWrites", fn := fun _ => fun
  | [d1, d2] => { results := [.lit (.bool true)], args := [d1, d2] }
  | _ => none }
def metaWritesRow : OpenClaim := { program := "ytlejcepbcfijiaadoor", sum := "d783622a9a64ac4bad7f25fbd22ef4a48691216fe728fcbff22657acb40947ad", func := "lapstone/lapstonelaw12.MetaWrites", spec := "metaWrites", unfollowed := true, recurses := true, named := ["lapstone/num.bits"], apart := false, laid := [("lapstone/num.bits", laid_lapstone_num_bits)] }
def MetaWritesSaid : Prop := metaWritesRow.holds Tryd.pinned (OpenSpec.ofChange metaWritesSpec)

/-- ITS FALSE NEIGHBOUR: 'it returns false'. Refute it at one input. -/
def metaWritesWrong : ChangeSpec := { name := "metaWrites", fn := fun _ => fun
  | [d1, d2] => { results := [.lit (.bool false)], args := [d1, d2] }
  | _ => none }
def MetaWritesWrongFalsely : Prop := metaWritesRow.holds Tryd.pinned (OpenSpec.ofChange metaWritesWrong)

/-- 'lapstonelaw12.MetaPlays': WHATEVER THE INPUT: true; the input reads as it did. -/
def metaPlaysSpec : ChangeSpec := { name := "metaPlays", fn := fun _ => fun
  | [d1, d2, d3] => { results := [.lit (.bool true)], args := [d1, d2, d3] }
  | _ => none }
def metaPlaysRow : OpenClaim := { program := "ytlejcepbcfijiaadoor", sum := "d783622a9a64ac4bad7f25fbd22ef4a48691216fe728fcbff22657acb40947ad", func := "lapstone/lapstonelaw12.MetaPlays", spec := "metaPlays", unfollowed := true, recurses := true, named := ["lapstone/num.bits"], apart := false, laid := [("lapstone/num.bits", laid_lapstone_num_bits)] }
def MetaPlaysSaid : Prop := metaPlaysRow.holds Tryd.pinned (OpenSpec.ofChange metaPlaysSpec)

/-- ITS FALSE NEIGHBOUR: 'it returns false'. Refute it at one input. -/
def metaPlaysWrong : ChangeSpec := { name := "metaPlays", fn := fun _ => fun
  | [d1, d2, d3] => { results := [.lit (.bool false)], args := [d1, d2, d3] }
  | _ => none }
def MetaPlaysWrongFalsely : Prop := metaPlaysRow.holds Tryd.pinned (OpenSpec.ofChange metaPlaysWrong)

/-- 'lapstonelaw08.WalPlaces': WHATEVER THE INPUT: true; the input reads as it did. -/
def walPlacesSpec : ChangeSpec := { name := "walPlaces", fn := fun _ => fun
  | [d1, d2, d3] => { results := [.lit (.bool true)], args := [d1, d2, d3] }
  | _ => none }
def walPlacesRow : OpenClaim := { program := "ytlejcepbcfijiaadoor", sum := "d783622a9a64ac4bad7f25fbd22ef4a48691216fe728fcbff22657acb40947ad", func := "lapstone/lapstonelaw08.WalPlaces", spec := "walPlaces", unfollowed := true, recurses := true, named := ["lapstone/num.bits"], apart := false, laid := [("lapstone/num.bits", laid_lapstone_num_bits)] }
def WalPlacesSaid : Prop := walPlacesRow.holds Tryd.pinned (OpenSpec.ofChange walPlacesSpec)

/-- ITS FALSE NEIGHBOUR: 'it returns false'. Refute it at one input. -/
def walPlacesWrong : ChangeSpec := { name := "walPlaces", fn := fun _ => fun
  | [d1, d2, d3] => { results := [.lit (.bool false)], args := [d1, d2, d3] }
  | _ => none }
def WalPlacesWrongFalsely : Prop := walPlacesRow.holds Tryd.pinned (OpenSpec.ofChange walPlacesWrong)

/-- 'lapstonelaw08.WalAgain': WHATEVER THE INPUT: true; the input reads as it did. -/
def walAgainSpec : ChangeSpec := { name := "walAgain", fn := fun _ => fun
  | [d1, d2, d3] => { results := [.lit (.bool true)], args := [d1, d2, d3] }
  | _ => none }
def walAgainRow : OpenClaim := { program := "ytlejcepbcfijiaadoor", sum := "d783622a9a64ac4bad7f25fbd22ef4a48691216fe728fcbff22657acb40947ad", func := "lapstone/lapstonelaw08.WalAgain", spec := "walAgain", unfollowed := true, recurses := true, named := ["lapstone/num.bits"], apart := false, laid := [("lapstone/num.bits", laid_lapstone_num_bits)] }
def WalAgainSaid : Prop := walAgainRow.holds Tryd.pinned (OpenSpec.ofChange walAgainSpec)

/-- ITS FALSE NEIGHBOUR: 'it returns false'. Refute it at one input. -/
def walAgainWrong : ChangeSpec := { name := "walAgain", fn := fun _ => fun
  | [d1, d2, d3] => { results := [.lit (.bool false)], args := [d1, d2, d3] }
  | _ => none }
def WalAgainWrongFalsely : Prop := walAgainRow.holds Tryd.pinned (OpenSpec.ofChange walAgainWrong)

/- THE SECOND FORM. 'bulk': how many values and letters a reading holds, each counted each time it is reached (what is shared counts as often as it is met; a slice's spare places count too). A statement '..UptoSaid' is the law's where the arguments, and the package variables that the reading takes, are together of bulk at most 1048576: NARROWER than '..Said'. Prove '..Said' where nothing that the law and all that it calls make is longer than what came in: it says more and counts as full. Else prove '..UptoSaid'. A law counts once. -/
mutual
def uptoBulk {H : Type} : DataW H → Nat
  | .lit (.string bytes) => bytes.length + 1
  | .lit _ => 1
  | .nil => 1
  | .ptr d => uptoBulk d + 1
  | .slice elems spare => uptoBulkAll elems + uptoBulkAll spare + 1
  | .agg parts => uptoBulkAll parts + 1
  | .iface _ d => uptoBulk d + 1
  | .map entries => uptoBulkEntries entries + 1
  | .held _ => 1
def uptoBulkAll {H : Type} : List (DataW H) → Nat
  | [] => 0
  | d :: r => uptoBulk d + uptoBulkAll r
def uptoBulkEntries {H : Type} : List (Lit × DataW H) → Nat
  | [] => 0
  | x :: r => uptoBulkEntry x + uptoBulkEntries r
def uptoBulkEntry {H : Type} : Lit × DataW H → Nat
  | (.string bytes, d) => bytes.length + uptoBulk d + 1
  | (_, d) => uptoBulk d + 1
 end
def uptoSmall : (H : Type) → List (DataW H) → Bool := fun _ ds => decide (uptoBulkAll ds ≤ 1048576)
def OpenSpec.upto (s : _root_.Go.ChangeSpec) : _root_.Go.OpenSpec := { _root_.Go.OpenSpec.ofChange s with cond := some uptoSmall }

/-- 'lapstonelaw12.MetaKeeps', WHERE WHAT IT READS IS OF BULK AT MOST 1048576: true; the input reads as it did. -/
def metaKeepsUptoRow : OpenClaim := { program := "ytlejcepbcfijiaadoor", sum := "d783622a9a64ac4bad7f25fbd22ef4a48691216fe728fcbff22657acb40947ad", func := "lapstone/lapstonelaw12.MetaKeeps", spec := "metaKeeps", unfollowed := true, recurses := true, named := ["lapstone/num.bits"], apart := false, laid := [("lapstone/num.bits", laid_lapstone_num_bits)], narrowed := true }
def MetaKeepsUptoSaid : Prop := metaKeepsUptoRow.holds Tryd.pinned (OpenSpec.upto metaKeepsSpec)

/-- 'lapstonelaw12.MetaWrites', WHERE WHAT IT READS IS OF BULK AT MOST 1048576: true; the input reads as it did. -/
def metaWritesUptoRow : OpenClaim := { program := "ytlejcepbcfijiaadoor", sum := "d783622a9a64ac4bad7f25fbd22ef4a48691216fe728fcbff22657acb40947ad", func := "lapstone/lapstonelaw12.MetaWrites", spec := "metaWrites", unfollowed := true, recurses := true, named := ["lapstone/num.bits"], apart := false, laid := [("lapstone/num.bits", laid_lapstone_num_bits)], narrowed := true }
def MetaWritesUptoSaid : Prop := metaWritesUptoRow.holds Tryd.pinned (OpenSpec.upto metaWritesSpec)

/-- 'lapstonelaw12.MetaPlays', WHERE WHAT IT READS IS OF BULK AT MOST 1048576: true; the input reads as it did. -/
def metaPlaysUptoRow : OpenClaim := { program := "ytlejcepbcfijiaadoor", sum := "d783622a9a64ac4bad7f25fbd22ef4a48691216fe728fcbff22657acb40947ad", func := "lapstone/lapstonelaw12.MetaPlays", spec := "metaPlays", unfollowed := true, recurses := true, named := ["lapstone/num.bits"], apart := false, laid := [("lapstone/num.bits", laid_lapstone_num_bits)], narrowed := true }
def MetaPlaysUptoSaid : Prop := metaPlaysUptoRow.holds Tryd.pinned (OpenSpec.upto metaPlaysSpec)

/-- 'lapstonelaw08.WalPlaces', WHERE WHAT IT READS IS OF BULK AT MOST 1048576: true; the input reads as it did. -/
def walPlacesUptoRow : OpenClaim := { program := "ytlejcepbcfijiaadoor", sum := "d783622a9a64ac4bad7f25fbd22ef4a48691216fe728fcbff22657acb40947ad", func := "lapstone/lapstonelaw08.WalPlaces", spec := "walPlaces", unfollowed := true, recurses := true, named := ["lapstone/num.bits"], apart := false, laid := [("lapstone/num.bits", laid_lapstone_num_bits)], narrowed := true }
def WalPlacesUptoSaid : Prop := walPlacesUptoRow.holds Tryd.pinned (OpenSpec.upto walPlacesSpec)

/-- 'lapstonelaw08.WalAgain', WHERE WHAT IT READS IS OF BULK AT MOST 1048576: true; the input reads as it did. -/
def walAgainUptoRow : OpenClaim := { program := "ytlejcepbcfijiaadoor", sum := "d783622a9a64ac4bad7f25fbd22ef4a48691216fe728fcbff22657acb40947ad", func := "lapstone/lapstonelaw08.WalAgain", spec := "walAgain", unfollowed := true, recurses := true, named := ["lapstone/num.bits"], apart := false, laid := [("lapstone/num.bits", laid_lapstone_num_bits)], narrowed := true }
def WalAgainUptoSaid : Prop := walAgainUptoRow.holds Tryd.pinned (OpenSpec.upto walAgainSpec)

end Rows
end Go.Proofs.YtlejcepbcfijiaaDoor
