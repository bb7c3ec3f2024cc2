/-
  No cell of these rows narrows 'for every input' (looked for: loops, veiled, ifaces, maps, wideKeys, modest, calm, conditions, laid).
  DERIVED. THE GIVEN ROWS OF THIS SEAT. 15 by the template 'for every input the law returns true; each argument reads behind the call as it read before'; 0 by the template 'total and deterministic' (their statements: YthkhlcigegbpfaaTotals.lean).
  GIVEN WITH THE SEED: the statements are not yours to turn. If you find one false, say at which input.
  Laid BY PROGRAM, IN A SANDBOX (cutbox-rows.mjs): the forced cells as the released guide's own fill.sh prints them over the translation 40a1370c54cfef1f… (all of the seat's roots in one cut). By AI agents, Wed Nov 11 2026. No macro, syntax, notation, axiom, sorry.
-/
import Derived.Test.YthkhlcigegbpfaaChecked
import GoSem.Claim
import GoSem.ClaimJoined
import GoSem.ClaimMapViews
import Derived.JoinedTies
import Derived.KernelRfl
namespace Go.Proofs.Ythkhlcigegbpfaa
/- THE CELL 'sum', in the pinned program and in every row, IS THE sha256 OF THE DUMP (.gsa) THAT YthkhlcigegbpfaaProg.lean LOADS. Nothing in Lean hashes anything: it is a label: what it is worth is what the hold of that sum in a sandbox is worth. -/
noncomputable def Try.pinned : Pinned := { name := "ythkhlcigegbpfaa", sum := "40a1370c54cfef1fa83f579dda1d1484e30b92b783217bc52b3794c4dde84983", checked := Try.checked }
namespace Rows
def none {H : Type} : Left H := { results := [], args := [] }

/-- 'ostinatolaw21.RefmsgTells': WHATEVER THE INPUT: true; the input reads as it did. -/
def refmsgTellsSpec : ChangeSpec := { name := "refmsgTells", fn := fun _ => fun
  | [d1, d2, d3, d4, d5, d6] => { results := [.lit (.bool true)], args := [d1, d2, d3, d4, d5, d6] }
  | _ => none }
def refmsgTellsRow : OpenClaim := { program := "ythkhlcigegbpfaa", sum := "40a1370c54cfef1fa83f579dda1d1484e30b92b783217bc52b3794c4dde84983", func := "ostinato/ostinatolaw21.RefmsgTells", spec := "refmsgTells", unfollowed := true, recurses := true, apart := false }
def RefmsgTellsSaid : Prop := refmsgTellsRow.holds Try.pinned (OpenSpec.ofChange refmsgTellsSpec)

/-- ITS FALSE NEIGHBOUR: 'it returns false'. Refute it at one input. -/
def refmsgTellsWrong : ChangeSpec := { name := "refmsgTells", fn := fun _ => fun
  | [d1, d2, d3, d4, d5, d6] => { results := [.lit (.bool false)], args := [d1, d2, d3, d4, d5, d6] }
  | _ => none }
def RefmsgTellsWrongFalsely : Prop := refmsgTellsRow.holds Try.pinned (OpenSpec.ofChange refmsgTellsWrong)

/-- 'ostinatolaw21.RefmsgForms': WHATEVER THE INPUT: true; the input reads as it did. -/
def refmsgFormsSpec : ChangeSpec := { name := "refmsgForms", fn := fun _ => fun
  | [d1, d2, d3] => { results := [.lit (.bool true)], args := [d1, d2, d3] }
  | _ => none }
def refmsgFormsRow : OpenClaim := { program := "ythkhlcigegbpfaa", sum := "40a1370c54cfef1fa83f579dda1d1484e30b92b783217bc52b3794c4dde84983", func := "ostinato/ostinatolaw21.RefmsgForms", spec := "refmsgForms", unfollowed := true, recurses := true, apart := false }
def RefmsgFormsSaid : Prop := refmsgFormsRow.holds Try.pinned (OpenSpec.ofChange refmsgFormsSpec)

/-- ITS FALSE NEIGHBOUR: 'it returns false'. Refute it at one input. -/
def refmsgFormsWrong : ChangeSpec := { name := "refmsgForms", fn := fun _ => fun
  | [d1, d2, d3] => { results := [.lit (.bool false)], args := [d1, d2, d3] }
  | _ => none }
def RefmsgFormsWrongFalsely : Prop := refmsgFormsRow.holds Try.pinned (OpenSpec.ofChange refmsgFormsWrong)

/-- 'ostinatolaw21.RefmsgBack': WHATEVER THE INPUT: true; the input reads as it did. -/
def refmsgBackSpec : ChangeSpec := { name := "refmsgBack", fn := fun _ => fun
  | [d1, d2, d3, d4, d5, d6, d7] => { results := [.lit (.bool true)], args := [d1, d2, d3, d4, d5, d6, d7] }
  | _ => none }
def refmsgBackRow : OpenClaim := { program := "ythkhlcigegbpfaa", sum := "40a1370c54cfef1fa83f579dda1d1484e30b92b783217bc52b3794c4dde84983", func := "ostinato/ostinatolaw21.RefmsgBack", spec := "refmsgBack", unfollowed := true, recurses := true, apart := false }
def RefmsgBackSaid : Prop := refmsgBackRow.holds Try.pinned (OpenSpec.ofChange refmsgBackSpec)

/-- ITS FALSE NEIGHBOUR: 'it returns false'. Refute it at one input. -/
def refmsgBackWrong : ChangeSpec := { name := "refmsgBack", fn := fun _ => fun
  | [d1, d2, d3, d4, d5, d6, d7] => { results := [.lit (.bool false)], args := [d1, d2, d3, d4, d5, d6, d7] }
  | _ => none }
def RefmsgBackWrongFalsely : Prop := refmsgBackRow.holds Try.pinned (OpenSpec.ofChange refmsgBackWrong)

/-- 'ostinatolaw12.MatrixTells': WHATEVER THE INPUT: true; the input reads as it did. -/
def matrixTellsSpec : ChangeSpec := { name := "matrixTells", fn := fun _ => fun
  | [d1, d2, d3, d4, d5, d6] => { results := [.lit (.bool true)], args := [d1, d2, d3, d4, d5, d6] }
  | _ => none }
def matrixTellsRow : OpenClaim := { program := "ythkhlcigegbpfaa", sum := "40a1370c54cfef1fa83f579dda1d1484e30b92b783217bc52b3794c4dde84983", func := "ostinato/ostinatolaw12.MatrixTells", spec := "matrixTells", unfollowed := true, recurses := true, apart := false }
def MatrixTellsSaid : Prop := matrixTellsRow.holds Try.pinned (OpenSpec.ofChange matrixTellsSpec)

/-- ITS FALSE NEIGHBOUR: 'it returns false'. Refute it at one input. -/
def matrixTellsWrong : ChangeSpec := { name := "matrixTells", fn := fun _ => fun
  | [d1, d2, d3, d4, d5, d6] => { results := [.lit (.bool false)], args := [d1, d2, d3, d4, d5, d6] }
  | _ => none }
def MatrixTellsWrongFalsely : Prop := matrixTellsRow.holds Try.pinned (OpenSpec.ofChange matrixTellsWrong)

/-- 'ostinatolaw12.MatrixComes': WHATEVER THE INPUT: true; the input reads as it did. -/
def matrixComesSpec : ChangeSpec := { name := "matrixComes", fn := fun _ => fun
  | [d1, d2, d3] => { results := [.lit (.bool true)], args := [d1, d2, d3] }
  | _ => none }
def matrixComesRow : OpenClaim := { program := "ythkhlcigegbpfaa", sum := "40a1370c54cfef1fa83f579dda1d1484e30b92b783217bc52b3794c4dde84983", func := "ostinato/ostinatolaw12.MatrixComes", spec := "matrixComes", unfollowed := true, recurses := true, apart := false }
def MatrixComesSaid : Prop := matrixComesRow.holds Try.pinned (OpenSpec.ofChange matrixComesSpec)

/-- ITS FALSE NEIGHBOUR: 'it returns false'. Refute it at one input. -/
def matrixComesWrong : ChangeSpec := { name := "matrixComes", fn := fun _ => fun
  | [d1, d2, d3] => { results := [.lit (.bool false)], args := [d1, d2, d3] }
  | _ => none }
def MatrixComesWrongFalsely : Prop := matrixComesRow.holds Try.pinned (OpenSpec.ofChange matrixComesWrong)

/-- 'ostinatolaw12.MatrixFrames': WHATEVER THE INPUT: true; the input reads as it did. -/
def matrixFramesSpec : ChangeSpec := { name := "matrixFrames", fn := fun _ => fun
  | [d1, d2] => { results := [.lit (.bool true)], args := [d1, d2] }
  | _ => none }
def matrixFramesRow : OpenClaim := { program := "ythkhlcigegbpfaa", sum := "40a1370c54cfef1fa83f579dda1d1484e30b92b783217bc52b3794c4dde84983", func := "ostinato/ostinatolaw12.MatrixFrames", spec := "matrixFrames", unfollowed := true, recurses := true, apart := false }
def MatrixFramesSaid : Prop := matrixFramesRow.holds Try.pinned (OpenSpec.ofChange matrixFramesSpec)

/-- ITS FALSE NEIGHBOUR: 'it returns false'. Refute it at one input. -/
def matrixFramesWrong : ChangeSpec := { name := "matrixFrames", fn := fun _ => fun
  | [d1, d2] => { results := [.lit (.bool false)], args := [d1, d2] }
  | _ => none }
def MatrixFramesWrongFalsely : Prop := matrixFramesRow.holds Try.pinned (OpenSpec.ofChange matrixFramesWrong)

/-- 'ostinatolaw12.MatrixBounds': WHATEVER THE INPUT: true; the input reads as it did. -/
def matrixBoundsSpec : ChangeSpec := { name := "matrixBounds", fn := fun _ => fun
  | [d1, d2] => { results := [.lit (.bool true)], args := [d1, d2] }
  | _ => none }
def matrixBoundsRow : OpenClaim := { program := "ythkhlcigegbpfaa", sum := "40a1370c54cfef1fa83f579dda1d1484e30b92b783217bc52b3794c4dde84983", func := "ostinato/ostinatolaw12.MatrixBounds", spec := "matrixBounds", unfollowed := true, recurses := true, apart := false }
def MatrixBoundsSaid : Prop := matrixBoundsRow.holds Try.pinned (OpenSpec.ofChange matrixBoundsSpec)

/-- ITS FALSE NEIGHBOUR: 'it returns false'. Refute it at one input. -/
def matrixBoundsWrong : ChangeSpec := { name := "matrixBounds", fn := fun _ => fun
  | [d1, d2] => { results := [.lit (.bool false)], args := [d1, d2] }
  | _ => none }
def MatrixBoundsWrongFalsely : Prop := matrixBoundsRow.holds Try.pinned (OpenSpec.ofChange matrixBoundsWrong)

/-- 'ostinatolaw12.MatrixApart': WHATEVER THE INPUT: true; the input reads as it did. -/
def matrixApartSpec : ChangeSpec := { name := "matrixApart", fn := fun _ => fun
  | [d1, d2, d3] => { results := [.lit (.bool true)], args := [d1, d2, d3] }
  | _ => none }
def matrixApartRow : OpenClaim := { program := "ythkhlcigegbpfaa", sum := "40a1370c54cfef1fa83f579dda1d1484e30b92b783217bc52b3794c4dde84983", func := "ostinato/ostinatolaw12.MatrixApart", spec := "matrixApart", unfollowed := true, recurses := true, apart := false }
def MatrixApartSaid : Prop := matrixApartRow.holds Try.pinned (OpenSpec.ofChange matrixApartSpec)

/-- ITS FALSE NEIGHBOUR: 'it returns false'. Refute it at one input. -/
def matrixApartWrong : ChangeSpec := { name := "matrixApart", fn := fun _ => fun
  | [d1, d2, d3] => { results := [.lit (.bool false)], args := [d1, d2, d3] }
  | _ => none }
def MatrixApartWrongFalsely : Prop := matrixApartRow.holds Try.pinned (OpenSpec.ofChange matrixApartWrong)

/-- 'ostinatolaw21.RefmsgRanks': WHATEVER THE INPUT: true; the input reads as it did. -/
def refmsgRanksSpec : ChangeSpec := { name := "refmsgRanks", fn := fun _ => fun
  | [d1, d2, d3, d4] => { results := [.lit (.bool true)], args := [d1, d2, d3, d4] }
  | _ => none }
def refmsgRanksRow : OpenClaim := { program := "ythkhlcigegbpfaa", sum := "40a1370c54cfef1fa83f579dda1d1484e30b92b783217bc52b3794c4dde84983", func := "ostinato/ostinatolaw21.RefmsgRanks", spec := "refmsgRanks", inPlace := ["internal/bytealg.abigen_runtime_cmpstring"], unfollowed := true, recurses := true, apart := false }
def RefmsgRanksSaid : Prop := refmsgRanksRow.holds Try.pinned (OpenSpec.ofChange refmsgRanksSpec)

/-- ITS FALSE NEIGHBOUR: 'it returns false'. Refute it at one input. -/
def refmsgRanksWrong : ChangeSpec := { name := "refmsgRanks", fn := fun _ => fun
  | [d1, d2, d3, d4] => { results := [.lit (.bool false)], args := [d1, d2, d3, d4] }
  | _ => none }
def RefmsgRanksWrongFalsely : Prop := refmsgRanksRow.holds Try.pinned (OpenSpec.ofChange refmsgRanksWrong)

/-- 'ostinatolaw13.ConfigTells': WHATEVER THE INPUT: true; the input reads as it did. -/
def configTellsSpec : ChangeSpec := { name := "configTells", fn := fun _ => fun
  | [d] => { results := [.lit (.bool true)], args := [d] }
  | _ => none }
def configTellsRow : OpenClaim := { program := "ythkhlcigegbpfaa", sum := "40a1370c54cfef1fa83f579dda1d1484e30b92b783217bc52b3794c4dde84983", func := "ostinato/ostinatolaw13.ConfigTells", spec := "configTells", unfollowed := true, recurses := true, apart := false }
def ConfigTellsSaid : Prop := configTellsRow.holds Try.pinned (OpenSpec.ofChange configTellsSpec)

/-- ITS FALSE NEIGHBOUR: 'it returns false'. Refute it at one input. -/
def configTellsWrong : ChangeSpec := { name := "configTells", fn := fun _ => fun
  | [d] => { results := [.lit (.bool false)], args := [d] }
  | _ => none }
def ConfigTellsWrongFalsely : Prop := configTellsRow.holds Try.pinned (OpenSpec.ofChange configTellsWrong)

/-- 'ostinatolaw13.ConfigReads': WHATEVER THE INPUT: true; the input reads as it did. -/
def configReadsSpec : ChangeSpec := { name := "configReads", fn := fun _ => fun
  | [d] => { results := [.lit (.bool true)], args := [d] }
  | _ => none }
def configReadsRow : OpenClaim := { program := "ythkhlcigegbpfaa", sum := "40a1370c54cfef1fa83f579dda1d1484e30b92b783217bc52b3794c4dde84983", func := "ostinato/ostinatolaw13.ConfigReads", spec := "configReads", unfollowed := true, recurses := true, apart := false }
def ConfigReadsSaid : Prop := configReadsRow.holds Try.pinned (OpenSpec.ofChange configReadsSpec)

/-- ITS FALSE NEIGHBOUR: 'it returns false'. Refute it at one input. -/
def configReadsWrong : ChangeSpec := { name := "configReads", fn := fun _ => fun
  | [d] => { results := [.lit (.bool false)], args := [d] }
  | _ => none }
def ConfigReadsWrongFalsely : Prop := configReadsRow.holds Try.pinned (OpenSpec.ofChange configReadsWrong)

/-- 'ostinatolaw13.ConfigCuts': WHATEVER THE INPUT: true; the input reads as it did. -/
def configCutsSpec : ChangeSpec := { name := "configCuts", fn := fun _ => fun
  | [d1, d2, d3] => { results := [.lit (.bool true)], args := [d1, d2, d3] }
  | _ => none }
def configCutsRow : OpenClaim := { program := "ythkhlcigegbpfaa", sum := "40a1370c54cfef1fa83f579dda1d1484e30b92b783217bc52b3794c4dde84983", func := "ostinato/ostinatolaw13.ConfigCuts", spec := "configCuts", unfollowed := true, recurses := true, apart := false }
def ConfigCutsSaid : Prop := configCutsRow.holds Try.pinned (OpenSpec.ofChange configCutsSpec)

/-- ITS FALSE NEIGHBOUR: 'it returns false'. Refute it at one input. -/
def configCutsWrong : ChangeSpec := { name := "configCuts", fn := fun _ => fun
  | [d1, d2, d3] => { results := [.lit (.bool false)], args := [d1, d2, d3] }
  | _ => none }
def ConfigCutsWrongFalsely : Prop := configCutsRow.holds Try.pinned (OpenSpec.ofChange configCutsWrong)

/-- 'ostinatolaw13.ConfigSizes': WHATEVER THE INPUT: true; the input reads as it did. -/
def configSizesSpec : ChangeSpec := { name := "configSizes", fn := fun _ => fun
  | [d] => { results := [.lit (.bool true)], args := [d] }
  | _ => none }
def configSizesRow : OpenClaim := { program := "ythkhlcigegbpfaa", sum := "40a1370c54cfef1fa83f579dda1d1484e30b92b783217bc52b3794c4dde84983", func := "ostinato/ostinatolaw13.ConfigSizes", spec := "configSizes", unfollowed := true, recurses := true, apart := false }
def ConfigSizesSaid : Prop := configSizesRow.holds Try.pinned (OpenSpec.ofChange configSizesSpec)

/-- ITS FALSE NEIGHBOUR: 'it returns false'. Refute it at one input. -/
def configSizesWrong : ChangeSpec := { name := "configSizes", fn := fun _ => fun
  | [d] => { results := [.lit (.bool false)], args := [d] }
  | _ => none }
def ConfigSizesWrongFalsely : Prop := configSizesRow.holds Try.pinned (OpenSpec.ofChange configSizesWrong)

/-- 'ostinatolaw13.ConfigApart': WHATEVER THE INPUT: true; the input reads as it did. -/
def configApartSpec : ChangeSpec := { name := "configApart", fn := fun _ => fun
  | [d1, d2] => { results := [.lit (.bool true)], args := [d1, d2] }
  | _ => none }
def configApartRow : OpenClaim := { program := "ythkhlcigegbpfaa", sum := "40a1370c54cfef1fa83f579dda1d1484e30b92b783217bc52b3794c4dde84983", func := "ostinato/ostinatolaw13.ConfigApart", spec := "configApart", unfollowed := true, recurses := true, apart := false }
def ConfigApartSaid : Prop := configApartRow.holds Try.pinned (OpenSpec.ofChange configApartSpec)

/-- ITS FALSE NEIGHBOUR: 'it returns false'. Refute it at one input. -/
def configApartWrong : ChangeSpec := { name := "configApart", fn := fun _ => fun
  | [d1, d2] => { results := [.lit (.bool false)], args := [d1, d2] }
  | _ => none }
def ConfigApartWrongFalsely : Prop := configApartRow.holds Try.pinned (OpenSpec.ofChange configApartWrong)

/-- 'ostinatolaw13.ConfigFields': WHATEVER THE INPUT: true; the input reads as it did. -/
def configFieldsSpec : ChangeSpec := { name := "configFields", fn := fun _ => fun
  | [d1, d2, d3, d4, d5, d6] => { results := [.lit (.bool true)], args := [d1, d2, d3, d4, d5, d6] }
  | _ => none }
def configFieldsRow : OpenClaim := { program := "ythkhlcigegbpfaa", sum := "40a1370c54cfef1fa83f579dda1d1484e30b92b783217bc52b3794c4dde84983", func := "ostinato/ostinatolaw13.ConfigFields", spec := "configFields", unfollowed := true, recurses := true, apart := false }
def ConfigFieldsSaid : Prop := configFieldsRow.holds Try.pinned (OpenSpec.ofChange configFieldsSpec)

/-- ITS FALSE NEIGHBOUR: 'it returns false'. Refute it at one input. -/
def configFieldsWrong : ChangeSpec := { name := "configFields", fn := fun _ => fun
  | [d1, d2, d3, d4, d5, d6] => { results := [.lit (.bool false)], args := [d1, d2, d3, d4, d5, d6] }
  | _ => none }
def ConfigFieldsWrongFalsely : Prop := configFieldsRow.holds Try.pinned (OpenSpec.ofChange configFieldsWrong)

/- THE SECOND FORM. 'bulk': how many values and letters a reading holds, each counted each time it is reached (what is shared counts as often as it is met; a slice's spare places count too). A statement '..UptoSaid' is the law's where the arguments, and the package variables that the reading takes, are together of bulk at most 1048576: NARROWER than '..Said'. Prove '..Said' where nothing that the law and all that it calls make is longer than what came in: it says more and counts as full. Else prove '..UptoSaid'. A law counts once. -/
mutual
def uptoBulk {H : Type} : DataW H → Nat
  | .lit (.string bytes) => bytes.length + 1
  | .lit _ => 1
  | .nil => 1
  | .ptr d => uptoBulk d + 1
  | .slice elems spare => uptoBulkAll elems + uptoBulkAll spare + 1
  | .agg parts => uptoBulkAll parts + 1
  | .iface _ d => uptoBulk d + 1
  | .map entries => uptoBulkEntries entries + 1
  | .held _ => 1
def uptoBulkAll {H : Type} : List (DataW H) → Nat
  | [] => 0
  | d :: r => uptoBulk d + uptoBulkAll r
def uptoBulkEntries {H : Type} : List (Lit × DataW H) → Nat
  | [] => 0
  | x :: r => uptoBulkEntry x + uptoBulkEntries r
def uptoBulkEntry {H : Type} : Lit × DataW H → Nat
  | (.string bytes, d) => bytes.length + uptoBulk d + 1
  | (_, d) => uptoBulk d + 1
 end
def uptoSmall : (H : Type) → List (DataW H) → Bool := fun _ ds => decide (uptoBulkAll ds ≤ 1048576)
def OpenSpec.upto (s : _root_.Go.ChangeSpec) : _root_.Go.OpenSpec := { _root_.Go.OpenSpec.ofChange s with cond := some uptoSmall }

/-- 'ostinatolaw21.RefmsgTells', WHERE WHAT IT READS IS OF BULK AT MOST 1048576: true; the input reads as it did. -/
def refmsgTellsUptoRow : OpenClaim := { program := "ythkhlcigegbpfaa", sum := "40a1370c54cfef1fa83f579dda1d1484e30b92b783217bc52b3794c4dde84983", func := "ostinato/ostinatolaw21.RefmsgTells", spec := "refmsgTells", unfollowed := true, recurses := true, apart := false, narrowed := true }
def RefmsgTellsUptoSaid : Prop := refmsgTellsUptoRow.holds Try.pinned (OpenSpec.upto refmsgTellsSpec)

/-- 'ostinatolaw21.RefmsgForms', WHERE WHAT IT READS IS OF BULK AT MOST 1048576: true; the input reads as it did. -/
def refmsgFormsUptoRow : OpenClaim := { program := "ythkhlcigegbpfaa", sum := "40a1370c54cfef1fa83f579dda1d1484e30b92b783217bc52b3794c4dde84983", func := "ostinato/ostinatolaw21.RefmsgForms", spec := "refmsgForms", unfollowed := true, recurses := true, apart := false, narrowed := true }
def RefmsgFormsUptoSaid : Prop := refmsgFormsUptoRow.holds Try.pinned (OpenSpec.upto refmsgFormsSpec)

/-- 'ostinatolaw21.RefmsgBack', WHERE WHAT IT READS IS OF BULK AT MOST 1048576: true; the input reads as it did. -/
def refmsgBackUptoRow : OpenClaim := { program := "ythkhlcigegbpfaa", sum := "40a1370c54cfef1fa83f579dda1d1484e30b92b783217bc52b3794c4dde84983", func := "ostinato/ostinatolaw21.RefmsgBack", spec := "refmsgBack", unfollowed := true, recurses := true, apart := false, narrowed := true }
def RefmsgBackUptoSaid : Prop := refmsgBackUptoRow.holds Try.pinned (OpenSpec.upto refmsgBackSpec)

/-- 'ostinatolaw12.MatrixTells', WHERE WHAT IT READS IS OF BULK AT MOST 1048576: true; the input reads as it did. -/
def matrixTellsUptoRow : OpenClaim := { program := "ythkhlcigegbpfaa", sum := "40a1370c54cfef1fa83f579dda1d1484e30b92b783217bc52b3794c4dde84983", func := "ostinato/ostinatolaw12.MatrixTells", spec := "matrixTells", unfollowed := true, recurses := true, apart := false, narrowed := true }
def MatrixTellsUptoSaid : Prop := matrixTellsUptoRow.holds Try.pinned (OpenSpec.upto matrixTellsSpec)

/-- 'ostinatolaw12.MatrixComes', WHERE WHAT IT READS IS OF BULK AT MOST 1048576: true; the input reads as it did. -/
def matrixComesUptoRow : OpenClaim := { program := "ythkhlcigegbpfaa", sum := "40a1370c54cfef1fa83f579dda1d1484e30b92b783217bc52b3794c4dde84983", func := "ostinato/ostinatolaw12.MatrixComes", spec := "matrixComes", unfollowed := true, recurses := true, apart := false, narrowed := true }
def MatrixComesUptoSaid : Prop := matrixComesUptoRow.holds Try.pinned (OpenSpec.upto matrixComesSpec)

/-- 'ostinatolaw12.MatrixFrames', WHERE WHAT IT READS IS OF BULK AT MOST 1048576: true; the input reads as it did. -/
def matrixFramesUptoRow : OpenClaim := { program := "ythkhlcigegbpfaa", sum := "40a1370c54cfef1fa83f579dda1d1484e30b92b783217bc52b3794c4dde84983", func := "ostinato/ostinatolaw12.MatrixFrames", spec := "matrixFrames", unfollowed := true, recurses := true, apart := false, narrowed := true }
def MatrixFramesUptoSaid : Prop := matrixFramesUptoRow.holds Try.pinned (OpenSpec.upto matrixFramesSpec)

/-- 'ostinatolaw12.MatrixBounds', WHERE WHAT IT READS IS OF BULK AT MOST 1048576: true; the input reads as it did. -/
def matrixBoundsUptoRow : OpenClaim := { program := "ythkhlcigegbpfaa", sum := "40a1370c54cfef1fa83f579dda1d1484e30b92b783217bc52b3794c4dde84983", func := "ostinato/ostinatolaw12.MatrixBounds", spec := "matrixBounds", unfollowed := true, recurses := true, apart := false, narrowed := true }
def MatrixBoundsUptoSaid : Prop := matrixBoundsUptoRow.holds Try.pinned (OpenSpec.upto matrixBoundsSpec)

/-- 'ostinatolaw12.MatrixApart', WHERE WHAT IT READS IS OF BULK AT MOST 1048576: true; the input reads as it did. -/
def matrixApartUptoRow : OpenClaim := { program := "ythkhlcigegbpfaa", sum := "40a1370c54cfef1fa83f579dda1d1484e30b92b783217bc52b3794c4dde84983", func := "ostinato/ostinatolaw12.MatrixApart", spec := "matrixApart", unfollowed := true, recurses := true, apart := false, narrowed := true }
def MatrixApartUptoSaid : Prop := matrixApartUptoRow.holds Try.pinned (OpenSpec.upto matrixApartSpec)

/-- 'ostinatolaw21.RefmsgRanks', WHERE WHAT IT READS IS OF BULK AT MOST 1048576: true; the input reads as it did. -/
def refmsgRanksUptoRow : OpenClaim := { program := "ythkhlcigegbpfaa", sum := "40a1370c54cfef1fa83f579dda1d1484e30b92b783217bc52b3794c4dde84983", func := "ostinato/ostinatolaw21.RefmsgRanks", spec := "refmsgRanks", inPlace := ["internal/bytealg.abigen_runtime_cmpstring"], unfollowed := true, recurses := true, apart := false, narrowed := true }
def RefmsgRanksUptoSaid : Prop := refmsgRanksUptoRow.holds Try.pinned (OpenSpec.upto refmsgRanksSpec)

/-- 'ostinatolaw13.ConfigTells', WHERE WHAT IT READS IS OF BULK AT MOST 1048576: true; the input reads as it did. -/
def configTellsUptoRow : OpenClaim := { program := "ythkhlcigegbpfaa", sum := "40a1370c54cfef1fa83f579dda1d1484e30b92b783217bc52b3794c4dde84983", func := "ostinato/ostinatolaw13.ConfigTells", spec := "configTells", unfollowed := true, recurses := true, apart := false, narrowed := true }
def ConfigTellsUptoSaid : Prop := configTellsUptoRow.holds Try.pinned (OpenSpec.upto configTellsSpec)

/-- 'ostinatolaw13.ConfigReads', WHERE WHAT IT READS IS OF BULK AT MOST 1048576: true; the input reads as it did. -/
def configReadsUptoRow : OpenClaim := { program := "ythkhlcigegbpfaa", sum := "40a1370c54cfef1fa83f579dda1d1484e30b92b783217bc52b3794c4dde84983", func := "ostinato/ostinatolaw13.ConfigReads", spec := "configReads", unfollowed := true, recurses := true, apart := false, narrowed := true }
def ConfigReadsUptoSaid : Prop := configReadsUptoRow.holds Try.pinned (OpenSpec.upto configReadsSpec)

/-- 'ostinatolaw13.ConfigCuts', WHERE WHAT IT READS IS OF BULK AT MOST 1048576: true; the input reads as it did. -/
def configCutsUptoRow : OpenClaim := { program := "ythkhlcigegbpfaa", sum := "40a1370c54cfef1fa83f579dda1d1484e30b92b783217bc52b3794c4dde84983", func := "ostinato/ostinatolaw13.ConfigCuts", spec := "configCuts", unfollowed := true, recurses := true, apart := false, narrowed := true }
def ConfigCutsUptoSaid : Prop := configCutsUptoRow.holds Try.pinned (OpenSpec.upto configCutsSpec)

/-- 'ostinatolaw13.ConfigSizes', WHERE WHAT IT READS IS OF BULK AT MOST 1048576: true; the input reads as it did. -/
def configSizesUptoRow : OpenClaim := { program := "ythkhlcigegbpfaa", sum := "40a1370c54cfef1fa83f579dda1d1484e30b92b783217bc52b3794c4dde84983", func := "ostinato/ostinatolaw13.ConfigSizes", spec := "configSizes", unfollowed := true, recurses := true, apart := false, narrowed := true }
def ConfigSizesUptoSaid : Prop := configSizesUptoRow.holds Try.pinned (OpenSpec.upto configSizesSpec)

/-- 'ostinatolaw13.ConfigApart', WHERE WHAT IT READS IS OF BULK AT MOST 1048576: true; the input reads as it did. -/
def configApartUptoRow : OpenClaim := { program := "ythkhlcigegbpfaa", sum := "40a1370c54cfef1fa83f579dda1d1484e30b92b783217bc52b3794c4dde84983", func := "ostinato/ostinatolaw13.ConfigApart", spec := "configApart", unfollowed := true, recurses := true, apart := false, narrowed := true }
def ConfigApartUptoSaid : Prop := configApartUptoRow.holds Try.pinned (OpenSpec.upto configApartSpec)

/-- 'ostinatolaw13.ConfigFields', WHERE WHAT IT READS IS OF BULK AT MOST 1048576: true; the input reads as it did. -/
def configFieldsUptoRow : OpenClaim := { program := "ythkhlcigegbpfaa", sum := "40a1370c54cfef1fa83f579dda1d1484e30b92b783217bc52b3794c4dde84983", func := "ostinato/ostinatolaw13.ConfigFields", spec := "configFields", unfollowed := true, recurses := true, apart := false, narrowed := true }
def ConfigFieldsUptoSaid : Prop := configFieldsUptoRow.holds Try.pinned (OpenSpec.upto configFieldsSpec)

end Rows
end Go.Proofs.Ythkhlcigegbpfaa
