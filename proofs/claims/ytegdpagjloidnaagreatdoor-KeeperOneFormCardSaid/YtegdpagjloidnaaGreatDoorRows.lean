/-
  NARROWER THAN 'FOR EVERY INPUT', by the rows' own cells (each row's printed sentence says how): KeeperEncodes: laid · KeeperDecodes: laid · KeeperOneForm: laid.
  DERIVED. THE GIVEN ROWS OF THIS SEAT. 3 by the template 'for every input the law returns true; each argument reads behind the call as it read before'; 0 by the template 'total and deterministic' (their statements: YtegdpagjloidnaaGreatDoorTotals.lean).
  GIVEN WITH THE SEED: the statements are not yours to turn. If you find one false, say at which input.
  Laid BY PROGRAM, IN A SANDBOX (cutbox-rows.mjs): the forced cells as the released guide's own fill.sh prints them over the translation 30e12492d722ab27… (all of the seat's roots in one cut). By AI agents, Wed Nov 11 2026. No macro, syntax, notation, axiom, sorry.
-/
import Derived.Test.YtegdpagjloidnaaGreatDoorChecked
import GoSem.Claim
import GoSem.ClaimJoined
import GoSem.ClaimMapViews
import Derived.JoinedTies
import Derived.KernelRfl
namespace Go.Proofs.YtegdpagjloidnaaGreatDoor
/- THE CELL 'sum', in the pinned program and in every row, IS THE sha256 OF THE DUMP (.gsa) THAT YtegdpagjloidnaaGreatDoorProg.lean LOADS. Nothing in Lean hashes anything: it is a label: what it is worth is what the hold of that sum in a sandbox is worth. -/
noncomputable def Tryz.pinned : Pinned := { name := "ytegdpagjloidnaagreatdoor", sum := "30e12492d722ab27bd80b8201f467755f047e602969941745c30f10539fccb0a", checked := Tryz.checked }
namespace Rows
def none {H : Type} : Left H := { results := [], args := [] }

/- WHAT THE LISTED PACKAGE-LEVEL VARIABLES READ AS WHEN THE CALL BEGINS. Each datum BY PROGRAM (the guide's laid-datum.mjs) off the statement by which the dump's own 'gosem.cut.vars' lays the variable. In a bare row this is a premise. The card (YtegdpagjloidnaaGreatDoorCards.lean) ties it to the program's text. -/
def laid_sluice_frame_table {H : Type} : DataW H := .agg [.lit (.int .u32 0), .lit (.int .u32 498536548), .lit (.int .u32 997073096), .lit (.int .u32 651767980), .lit (.int .u32 1994146192), .lit (.int .u32 1802195444), .lit (.int .u32 1303535960), .lit (.int .u32 1342533948), .lit (.int .u32 3988292384), .lit (.int .u32 4027552580), .lit (.int .u32 3604390888), .lit (.int .u32 3412177804), .lit (.int .u32 2607071920), .lit (.int .u32 2262029012), .lit (.int .u32 2685067896), .lit (.int .u32 3183342108)]
def laid_sluice_ledger_errArg {H : Type} : DataW H := .iface "*errors.errorString" (.ptr (.agg [.lit (.string [97, 32, 110, 117, 109, 98, 101, 114, 32, 116, 104, 97, 116, 32, 109, 97, 121, 32, 110, 111, 116, 32, 98, 101])]))
def laid_sluice_ledger_errRights {H : Type} : DataW H := .iface "*errors.errorString" (.ptr (.agg [.lit (.string [110, 111, 116, 32, 101, 110, 111, 117, 103, 104, 32, 114, 105, 103, 104, 116, 115])]))
def laid_sluice_ledger_errCap {H : Type} : DataW H := .iface "*errors.errorString" (.ptr (.agg [.lit (.string [109, 111, 114, 101, 32, 116, 104, 97, 110, 32, 116, 104, 101, 32, 99, 97, 112])]))

/-- 'sluicelaw22.KeeperEncodes': WHATEVER THE INPUT: true; the input reads as it did. -/
def keeperEncodesSpec : ChangeSpec := { name := "keeperEncodes", fn := fun _ => fun
  | [d] => { results := [.lit (.bool true)], args := [d] }
  | _ => none }
def keeperEncodesRow : OpenClaim := { program := "ytegdpagjloidnaagreatdoor", sum := "30e12492d722ab27bd80b8201f467755f047e602969941745c30f10539fccb0a", func := "sluice/sluicelaw22.KeeperEncodes", spec := "keeperEncodes", inPlace := ["slices.overlaps[string]", "internal/reflectlite.TypeOf", "internal/reflectlite.ValueOf", "internal/reflectlite.Swapper", "(internal/reflectlite.Value).Len"], unfollowed := true, recurses := true, named := ["sluice/ledger.errArg", "sluice/ledger.errCap", "sluice/ledger.errRights", "sluice/frame.table"], plainKeys := false, apart := false, laid := [("sluice/frame.table", laid_sluice_frame_table), ("sluice/ledger.errArg", laid_sluice_ledger_errArg), ("sluice/ledger.errRights", laid_sluice_ledger_errRights), ("sluice/ledger.errCap", laid_sluice_ledger_errCap)] }
def KeeperEncodesSaid : Prop := keeperEncodesRow.holds Tryz.pinned (OpenSpec.ofChange keeperEncodesSpec)

/-- ITS FALSE NEIGHBOUR: 'it returns false'. Refute it at one input. -/
def keeperEncodesWrong : ChangeSpec := { name := "keeperEncodes", fn := fun _ => fun
  | [d] => { results := [.lit (.bool false)], args := [d] }
  | _ => none }
def KeeperEncodesWrongFalsely : Prop := keeperEncodesRow.holds Tryz.pinned (OpenSpec.ofChange keeperEncodesWrong)

/-- 'sluicelaw22.KeeperDecodes': WHATEVER THE INPUT: true; the input reads as it did. -/
def keeperDecodesSpec : ChangeSpec := { name := "keeperDecodes", fn := fun _ => fun
  | [d] => { results := [.lit (.bool true)], args := [d] }
  | _ => none }
def keeperDecodesRow : OpenClaim := { program := "ytegdpagjloidnaagreatdoor", sum := "30e12492d722ab27bd80b8201f467755f047e602969941745c30f10539fccb0a", func := "sluice/sluicelaw22.KeeperDecodes", spec := "keeperDecodes", inPlace := ["slices.overlaps[string]", "internal/reflectlite.TypeOf", "internal/reflectlite.ValueOf", "internal/reflectlite.Swapper", "(internal/reflectlite.Value).Len"], unfollowed := true, recurses := true, named := ["sluice/ledger.errArg", "sluice/ledger.errCap", "sluice/ledger.errRights", "sluice/frame.table"], plainKeys := false, apart := false, laid := [("sluice/frame.table", laid_sluice_frame_table), ("sluice/ledger.errArg", laid_sluice_ledger_errArg), ("sluice/ledger.errRights", laid_sluice_ledger_errRights), ("sluice/ledger.errCap", laid_sluice_ledger_errCap)] }
def KeeperDecodesSaid : Prop := keeperDecodesRow.holds Tryz.pinned (OpenSpec.ofChange keeperDecodesSpec)

/-- ITS FALSE NEIGHBOUR: 'it returns false'. Refute it at one input. -/
def keeperDecodesWrong : ChangeSpec := { name := "keeperDecodes", fn := fun _ => fun
  | [d] => { results := [.lit (.bool false)], args := [d] }
  | _ => none }
def KeeperDecodesWrongFalsely : Prop := keeperDecodesRow.holds Tryz.pinned (OpenSpec.ofChange keeperDecodesWrong)

/-- 'sluicelaw22.KeeperOneForm': WHATEVER THE INPUT: true; the input reads as it did. -/
def keeperOneFormSpec : ChangeSpec := { name := "keeperOneForm", fn := fun _ => fun
  | [d1, d2] => { results := [.lit (.bool true)], args := [d1, d2] }
  | _ => none }
def keeperOneFormRow : OpenClaim := { program := "ytegdpagjloidnaagreatdoor", sum := "30e12492d722ab27bd80b8201f467755f047e602969941745c30f10539fccb0a", func := "sluice/sluicelaw22.KeeperOneForm", spec := "keeperOneForm", inPlace := ["slices.overlaps[string]", "internal/reflectlite.TypeOf", "internal/reflectlite.ValueOf", "internal/reflectlite.Swapper", "(internal/reflectlite.Value).Len"], unfollowed := true, recurses := true, named := ["sluice/ledger.errArg", "sluice/ledger.errCap", "sluice/ledger.errRights", "sluice/frame.table"], plainKeys := false, apart := false, laid := [("sluice/frame.table", laid_sluice_frame_table), ("sluice/ledger.errArg", laid_sluice_ledger_errArg), ("sluice/ledger.errRights", laid_sluice_ledger_errRights), ("sluice/ledger.errCap", laid_sluice_ledger_errCap)] }
def KeeperOneFormSaid : Prop := keeperOneFormRow.holds Tryz.pinned (OpenSpec.ofChange keeperOneFormSpec)

/-- ITS FALSE NEIGHBOUR: 'it returns false'. Refute it at one input. -/
def keeperOneFormWrong : ChangeSpec := { name := "keeperOneForm", fn := fun _ => fun
  | [d1, d2] => { results := [.lit (.bool false)], args := [d1, d2] }
  | _ => none }
def KeeperOneFormWrongFalsely : Prop := keeperOneFormRow.holds Tryz.pinned (OpenSpec.ofChange keeperOneFormWrong)

/- THE SECOND FORM. 'bulk': how many values and letters a reading holds, each counted each time it is reached (what is shared counts as often as it is met; a slice's spare places count too). A statement '..UptoSaid' is the law's where the arguments, and the package variables that the reading takes, are together of bulk at most 1048576: NARROWER than '..Said'. Prove '..Said' where nothing that the law and all that it calls make is longer than what came in: it says more and counts as full. Else prove '..UptoSaid'. A law counts once. -/
mutual
def uptoBulk {H : Type} : DataW H → Nat
  | .lit (.string bytes) => bytes.length + 1
  | .lit _ => 1
  | .nil => 1
  | .ptr d => uptoBulk d + 1
  | .slice elems spare => uptoBulkAll elems + uptoBulkAll spare + 1
  | .agg parts => uptoBulkAll parts + 1
  | .iface _ d => uptoBulk d + 1
  | .map entries => uptoBulkEntries entries + 1
  | .held _ => 1
def uptoBulkAll {H : Type} : List (DataW H) → Nat
  | [] => 0
  | d :: r => uptoBulk d + uptoBulkAll r
def uptoBulkEntries {H : Type} : List (Lit × DataW H) → Nat
  | [] => 0
  | x :: r => uptoBulkEntry x + uptoBulkEntries r
def uptoBulkEntry {H : Type} : Lit × DataW H → Nat
  | (.string bytes, d) => bytes.length + uptoBulk d + 1
  | (_, d) => uptoBulk d + 1
 end
def uptoSmall : (H : Type) → List (DataW H) → Bool := fun _ ds => decide (uptoBulkAll ds ≤ 1048576)
def OpenSpec.upto (s : _root_.Go.ChangeSpec) : _root_.Go.OpenSpec := { _root_.Go.OpenSpec.ofChange s with cond := some uptoSmall }

/-- 'sluicelaw22.KeeperEncodes', WHERE WHAT IT READS IS OF BULK AT MOST 1048576: true; the input reads as it did. -/
def keeperEncodesUptoRow : OpenClaim := { program := "ytegdpagjloidnaagreatdoor", sum := "30e12492d722ab27bd80b8201f467755f047e602969941745c30f10539fccb0a", func := "sluice/sluicelaw22.KeeperEncodes", spec := "keeperEncodes", inPlace := ["slices.overlaps[string]", "internal/reflectlite.TypeOf", "internal/reflectlite.ValueOf", "internal/reflectlite.Swapper", "(internal/reflectlite.Value).Len"], unfollowed := true, recurses := true, named := ["sluice/ledger.errArg", "sluice/ledger.errCap", "sluice/ledger.errRights", "sluice/frame.table"], plainKeys := false, apart := false, laid := [("sluice/frame.table", laid_sluice_frame_table), ("sluice/ledger.errArg", laid_sluice_ledger_errArg), ("sluice/ledger.errRights", laid_sluice_ledger_errRights), ("sluice/ledger.errCap", laid_sluice_ledger_errCap)], narrowed := true }
def KeeperEncodesUptoSaid : Prop := keeperEncodesUptoRow.holds Tryz.pinned (OpenSpec.upto keeperEncodesSpec)

/-- 'sluicelaw22.KeeperDecodes', WHERE WHAT IT READS IS OF BULK AT MOST 1048576: true; the input reads as it did. -/
def keeperDecodesUptoRow : OpenClaim := { program := "ytegdpagjloidnaagreatdoor", sum := "30e12492d722ab27bd80b8201f467755f047e602969941745c30f10539fccb0a", func := "sluice/sluicelaw22.KeeperDecodes", spec := "keeperDecodes", inPlace := ["slices.overlaps[string]", "internal/reflectlite.TypeOf", "internal/reflectlite.ValueOf", "internal/reflectlite.Swapper", "(internal/reflectlite.Value).Len"], unfollowed := true, recurses := true, named := ["sluice/ledger.errArg", "sluice/ledger.errCap", "sluice/ledger.errRights", "sluice/frame.table"], plainKeys := false, apart := false, laid := [("sluice/frame.table", laid_sluice_frame_table), ("sluice/ledger.errArg", laid_sluice_ledger_errArg), ("sluice/ledger.errRights", laid_sluice_ledger_errRights), ("sluice/ledger.errCap", laid_sluice_ledger_errCap)], narrowed := true }
def KeeperDecodesUptoSaid : Prop := keeperDecodesUptoRow.holds Tryz.pinned (OpenSpec.upto keeperDecodesSpec)

/-- 'sluicelaw22.KeeperOneForm', WHERE WHAT IT READS IS OF BULK AT MOST 1048576: true; the input reads as it did. -/
def keeperOneFormUptoRow : OpenClaim := { program := "ytegdpagjloidnaagreatdoor", sum := "30e12492d722ab27bd80b8201f467755f047e602969941745c30f10539fccb0a", func := "sluice/sluicelaw22.KeeperOneForm", spec := "keeperOneForm", inPlace := ["slices.overlaps[string]", "internal/reflectlite.TypeOf", "internal/reflectlite.ValueOf", "internal/reflectlite.Swapper", "(internal/reflectlite.Value).Len"], unfollowed := true, recurses := true, named := ["sluice/ledger.errArg", "sluice/ledger.errCap", "sluice/ledger.errRights", "sluice/frame.table"], plainKeys := false, apart := false, laid := [("sluice/frame.table", laid_sluice_frame_table), ("sluice/ledger.errArg", laid_sluice_ledger_errArg), ("sluice/ledger.errRights", laid_sluice_ledger_errRights), ("sluice/ledger.errCap", laid_sluice_ledger_errCap)], narrowed := true }
def KeeperOneFormUptoSaid : Prop := keeperOneFormUptoRow.holds Tryz.pinned (OpenSpec.upto keeperOneFormSpec)

end Rows
end Go.Proofs.YtegdpagjloidnaaGreatDoor
