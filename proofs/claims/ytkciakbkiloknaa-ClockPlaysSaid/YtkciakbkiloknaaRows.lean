/-
  No cell of these rows narrows 'for every input' (looked for: loops, veiled, ifaces, maps, wideKeys, modest, calm, conditions, laid).
  DERIVED. THE GIVEN ROWS OF THIS SEAT. 13 by the template 'for every input the law returns true; each argument reads behind the call as it read before'; 0 by the template 'total and deterministic' (their statements: YtkciakbkiloknaaTotals.lean).
  GIVEN WITH THE SEED: the statements are not yours to turn. If you find one false, say at which input.
  Laid BY PROGRAM, IN A SANDBOX (cutbox-rows.mjs): the forced cells as the released guide's own fill.sh prints them over the translation f6661784c54c1dc2… (all of the seat's roots in one cut). By AI agents, Wed Nov 11 2026. No macro, syntax, notation, axiom, sorry.
-/
import Derived.Test.YtkciakbkiloknaaChecked
import GoSem.Claim
import GoSem.ClaimJoined
import GoSem.ClaimMapViews
import Derived.JoinedTies
import Derived.KernelRfl
namespace Go.Proofs.Ytkciakbkiloknaa
/- THE CELL 'sum', in the pinned program and in every row, IS THE sha256 OF THE DUMP (.gsa) THAT YtkciakbkiloknaaProg.lean LOADS. Nothing in Lean hashes anything: it is a label: what it is worth is what the hold of that sum in a sandbox is worth. -/
noncomputable def Try.pinned : Pinned := { name := "ytkciakbkiloknaa", sum := "f6661784c54c1dc2a99579bd7a39390f1b6afc00717e200cdce43513c59c0b17", checked := Try.checked }
namespace Rows
def none {H : Type} : Left H := { results := [], args := [] }

/-- 'ostinatolaw10.MarkGoes': WHATEVER THE INPUT: true; the input reads as it did. -/
def markGoesSpec : ChangeSpec := { name := "markGoes", fn := fun _ => fun
  | [d1, d2, d3, d4] => { results := [.lit (.bool true)], args := [d1, d2, d3, d4] }
  | _ => none }
def markGoesRow : OpenClaim := { program := "ytkciakbkiloknaa", sum := "f6661784c54c1dc2a99579bd7a39390f1b6afc00717e200cdce43513c59c0b17", func := "ostinato/ostinatolaw10.MarkGoes", spec := "markGoes", apart := false }
def MarkGoesSaid : Prop := markGoesRow.holds Try.pinned (OpenSpec.ofChange markGoesSpec)

/-- ITS FALSE NEIGHBOUR: 'it returns false'. Refute it at one input. -/
def markGoesWrong : ChangeSpec := { name := "markGoes", fn := fun _ => fun
  | [d1, d2, d3, d4] => { results := [.lit (.bool false)], args := [d1, d2, d3, d4] }
  | _ => none }
def MarkGoesWrongFalsely : Prop := markGoesRow.holds Try.pinned (OpenSpec.ofChange markGoesWrong)

/-- 'ostinatolaw10.MarkForgets': WHATEVER THE INPUT: true; the input reads as it did. -/
def markForgetsSpec : ChangeSpec := { name := "markForgets", fn := fun _ => fun
  | [d1, d2, d3, d4] => { results := [.lit (.bool true)], args := [d1, d2, d3, d4] }
  | _ => none }
def markForgetsRow : OpenClaim := { program := "ytkciakbkiloknaa", sum := "f6661784c54c1dc2a99579bd7a39390f1b6afc00717e200cdce43513c59c0b17", func := "ostinato/ostinatolaw10.MarkForgets", spec := "markForgets", apart := false }
def MarkForgetsSaid : Prop := markForgetsRow.holds Try.pinned (OpenSpec.ofChange markForgetsSpec)

/-- ITS FALSE NEIGHBOUR: 'it returns false'. Refute it at one input. -/
def markForgetsWrong : ChangeSpec := { name := "markForgets", fn := fun _ => fun
  | [d1, d2, d3, d4] => { results := [.lit (.bool false)], args := [d1, d2, d3, d4] }
  | _ => none }
def MarkForgetsWrongFalsely : Prop := markForgetsRow.holds Try.pinned (OpenSpec.ofChange markForgetsWrong)

/-- 'ostinatolaw22.MasterTwo': WHATEVER THE INPUT: true; the input reads as it did. -/
def masterTwoSpec : ChangeSpec := { name := "masterTwo", fn := fun _ => fun
  | [d1, d2, d3] => { results := [.lit (.bool true)], args := [d1, d2, d3] }
  | _ => none }
def masterTwoRow : OpenClaim := { program := "ytkciakbkiloknaa", sum := "f6661784c54c1dc2a99579bd7a39390f1b6afc00717e200cdce43513c59c0b17", func := "ostinato/ostinatolaw22.MasterTwo", spec := "masterTwo", apart := false }
def MasterTwoSaid : Prop := masterTwoRow.holds Try.pinned (OpenSpec.ofChange masterTwoSpec)

/-- ITS FALSE NEIGHBOUR: 'it returns false'. Refute it at one input. -/
def masterTwoWrong : ChangeSpec := { name := "masterTwo", fn := fun _ => fun
  | [d1, d2, d3] => { results := [.lit (.bool false)], args := [d1, d2, d3] }
  | _ => none }
def MasterTwoWrongFalsely : Prop := masterTwoRow.holds Try.pinned (OpenSpec.ofChange masterTwoWrong)

/-- 'ostinatolaw22.MasterNever': WHATEVER THE INPUT: true; the input reads as it did. -/
def masterNeverSpec : ChangeSpec := { name := "masterNever", fn := fun _ => fun
  | [d1, d2] => { results := [.lit (.bool true)], args := [d1, d2] }
  | _ => none }
def masterNeverRow : OpenClaim := { program := "ytkciakbkiloknaa", sum := "f6661784c54c1dc2a99579bd7a39390f1b6afc00717e200cdce43513c59c0b17", func := "ostinato/ostinatolaw22.MasterNever", spec := "masterNever", apart := false }
def MasterNeverSaid : Prop := masterNeverRow.holds Try.pinned (OpenSpec.ofChange masterNeverSpec)

/-- ITS FALSE NEIGHBOUR: 'it returns false'. Refute it at one input. -/
def masterNeverWrong : ChangeSpec := { name := "masterNever", fn := fun _ => fun
  | [d1, d2] => { results := [.lit (.bool false)], args := [d1, d2] }
  | _ => none }
def MasterNeverWrongFalsely : Prop := masterNeverRow.holds Try.pinned (OpenSpec.ofChange masterNeverWrong)

/-- 'ostinatolaw22.MasterStates': WHATEVER THE INPUT: true; the input reads as it did. -/
def masterStatesSpec : ChangeSpec := { name := "masterStates", fn := fun _ => fun
  | [d1, d2, d3] => { results := [.lit (.bool true)], args := [d1, d2, d3] }
  | _ => none }
def masterStatesRow : OpenClaim := { program := "ytkciakbkiloknaa", sum := "f6661784c54c1dc2a99579bd7a39390f1b6afc00717e200cdce43513c59c0b17", func := "ostinato/ostinatolaw22.MasterStates", spec := "masterStates", apart := false }
def MasterStatesSaid : Prop := masterStatesRow.holds Try.pinned (OpenSpec.ofChange masterStatesSpec)

/-- ITS FALSE NEIGHBOUR: 'it returns false'. Refute it at one input. -/
def masterStatesWrong : ChangeSpec := { name := "masterStates", fn := fun _ => fun
  | [d1, d2, d3] => { results := [.lit (.bool false)], args := [d1, d2, d3] }
  | _ => none }
def MasterStatesWrongFalsely : Prop := masterStatesRow.holds Try.pinned (OpenSpec.ofChange masterStatesWrong)

/-- 'ostinatolaw10.MarkPlays': WHATEVER THE INPUT: true; the input reads as it did. -/
def markPlaysSpec : ChangeSpec := { name := "markPlays", fn := fun _ => fun
  | [d1, d2] => { results := [.lit (.bool true)], args := [d1, d2] }
  | _ => none }
def markPlaysRow : OpenClaim := { program := "ytkciakbkiloknaa", sum := "f6661784c54c1dc2a99579bd7a39390f1b6afc00717e200cdce43513c59c0b17", func := "ostinato/ostinatolaw10.MarkPlays", spec := "markPlays", apart := false }
def MarkPlaysSaid : Prop := markPlaysRow.holds Try.pinned (OpenSpec.ofChange markPlaysSpec)

/-- ITS FALSE NEIGHBOUR: 'it returns false'. Refute it at one input. -/
def markPlaysWrong : ChangeSpec := { name := "markPlays", fn := fun _ => fun
  | [d1, d2] => { results := [.lit (.bool false)], args := [d1, d2] }
  | _ => none }
def MarkPlaysWrongFalsely : Prop := markPlaysRow.holds Try.pinned (OpenSpec.ofChange markPlaysWrong)

/-- 'ostinatolaw9.ClockCounts': WHATEVER THE INPUT: true; the input reads as it did. -/
def clockCountsSpec : ChangeSpec := { name := "clockCounts", fn := fun _ => fun
  | [d1, d2] => { results := [.lit (.bool true)], args := [d1, d2] }
  | _ => none }
def clockCountsRow : OpenClaim := { program := "ytkciakbkiloknaa", sum := "f6661784c54c1dc2a99579bd7a39390f1b6afc00717e200cdce43513c59c0b17", func := "ostinato/ostinatolaw9.ClockCounts", spec := "clockCounts", apart := false }
def ClockCountsSaid : Prop := clockCountsRow.holds Try.pinned (OpenSpec.ofChange clockCountsSpec)

/-- ITS FALSE NEIGHBOUR: 'it returns false'. Refute it at one input. -/
def clockCountsWrong : ChangeSpec := { name := "clockCounts", fn := fun _ => fun
  | [d1, d2] => { results := [.lit (.bool false)], args := [d1, d2] }
  | _ => none }
def ClockCountsWrongFalsely : Prop := clockCountsRow.holds Try.pinned (OpenSpec.ofChange clockCountsWrong)

/-- 'ostinatolaw9.ClockSince': WHATEVER THE INPUT: true; the input reads as it did. -/
def clockSinceSpec : ChangeSpec := { name := "clockSince", fn := fun _ => fun
  | [d1, d2, d3] => { results := [.lit (.bool true)], args := [d1, d2, d3] }
  | _ => none }
def clockSinceRow : OpenClaim := { program := "ytkciakbkiloknaa", sum := "f6661784c54c1dc2a99579bd7a39390f1b6afc00717e200cdce43513c59c0b17", func := "ostinato/ostinatolaw9.ClockSince", spec := "clockSince", apart := false }
def ClockSinceSaid : Prop := clockSinceRow.holds Try.pinned (OpenSpec.ofChange clockSinceSpec)

/-- ITS FALSE NEIGHBOUR: 'it returns false'. Refute it at one input. -/
def clockSinceWrong : ChangeSpec := { name := "clockSince", fn := fun _ => fun
  | [d1, d2, d3] => { results := [.lit (.bool false)], args := [d1, d2, d3] }
  | _ => none }
def ClockSinceWrongFalsely : Prop := clockSinceRow.holds Try.pinned (OpenSpec.ofChange clockSinceWrong)

/-- 'ostinatolaw9.ClockRates': WHATEVER THE INPUT: true; the input reads as it did. -/
def clockRatesSpec : ChangeSpec := { name := "clockRates", fn := fun _ => fun
  | [d1, d2, d3] => { results := [.lit (.bool true)], args := [d1, d2, d3] }
  | _ => none }
def clockRatesRow : OpenClaim := { program := "ytkciakbkiloknaa", sum := "f6661784c54c1dc2a99579bd7a39390f1b6afc00717e200cdce43513c59c0b17", func := "ostinato/ostinatolaw9.ClockRates", spec := "clockRates", apart := false }
def ClockRatesSaid : Prop := clockRatesRow.holds Try.pinned (OpenSpec.ofChange clockRatesSpec)

/-- ITS FALSE NEIGHBOUR: 'it returns false'. Refute it at one input. -/
def clockRatesWrong : ChangeSpec := { name := "clockRates", fn := fun _ => fun
  | [d1, d2, d3] => { results := [.lit (.bool false)], args := [d1, d2, d3] }
  | _ => none }
def ClockRatesWrongFalsely : Prop := clockRatesRow.holds Try.pinned (OpenSpec.ofChange clockRatesWrong)

/-- 'ostinatolaw9.ClockSteady': WHATEVER THE INPUT: true; the input reads as it did. -/
def clockSteadySpec : ChangeSpec := { name := "clockSteady", fn := fun _ => fun
  | [d1, d2, d3] => { results := [.lit (.bool true)], args := [d1, d2, d3] }
  | _ => none }
def clockSteadyRow : OpenClaim := { program := "ytkciakbkiloknaa", sum := "f6661784c54c1dc2a99579bd7a39390f1b6afc00717e200cdce43513c59c0b17", func := "ostinato/ostinatolaw9.ClockSteady", spec := "clockSteady", apart := false }
def ClockSteadySaid : Prop := clockSteadyRow.holds Try.pinned (OpenSpec.ofChange clockSteadySpec)

/-- ITS FALSE NEIGHBOUR: 'it returns false'. Refute it at one input. -/
def clockSteadyWrong : ChangeSpec := { name := "clockSteady", fn := fun _ => fun
  | [d1, d2, d3] => { results := [.lit (.bool false)], args := [d1, d2, d3] }
  | _ => none }
def ClockSteadyWrongFalsely : Prop := clockSteadyRow.holds Try.pinned (OpenSpec.ofChange clockSteadyWrong)

/-- 'ostinatolaw9.ClockHolds': WHATEVER THE INPUT: true; the input reads as it did. -/
def clockHoldsSpec : ChangeSpec := { name := "clockHolds", fn := fun _ => fun
  | [d1, d2] => { results := [.lit (.bool true)], args := [d1, d2] }
  | _ => none }
def clockHoldsRow : OpenClaim := { program := "ytkciakbkiloknaa", sum := "f6661784c54c1dc2a99579bd7a39390f1b6afc00717e200cdce43513c59c0b17", func := "ostinato/ostinatolaw9.ClockHolds", spec := "clockHolds", apart := false }
def ClockHoldsSaid : Prop := clockHoldsRow.holds Try.pinned (OpenSpec.ofChange clockHoldsSpec)

/-- ITS FALSE NEIGHBOUR: 'it returns false'. Refute it at one input. -/
def clockHoldsWrong : ChangeSpec := { name := "clockHolds", fn := fun _ => fun
  | [d1, d2] => { results := [.lit (.bool false)], args := [d1, d2] }
  | _ => none }
def ClockHoldsWrongFalsely : Prop := clockHoldsRow.holds Try.pinned (OpenSpec.ofChange clockHoldsWrong)

/-- 'ostinatolaw22.MasterPlays': WHATEVER THE INPUT: true; the input reads as it did. -/
def masterPlaysSpec : ChangeSpec := { name := "masterPlays", fn := fun _ => fun
  | [d1, d2] => { results := [.lit (.bool true)], args := [d1, d2] }
  | _ => none }
def masterPlaysRow : OpenClaim := { program := "ytkciakbkiloknaa", sum := "f6661784c54c1dc2a99579bd7a39390f1b6afc00717e200cdce43513c59c0b17", func := "ostinato/ostinatolaw22.MasterPlays", spec := "masterPlays", apart := false }
def MasterPlaysSaid : Prop := masterPlaysRow.holds Try.pinned (OpenSpec.ofChange masterPlaysSpec)

/-- ITS FALSE NEIGHBOUR: 'it returns false'. Refute it at one input. -/
def masterPlaysWrong : ChangeSpec := { name := "masterPlays", fn := fun _ => fun
  | [d1, d2] => { results := [.lit (.bool false)], args := [d1, d2] }
  | _ => none }
def MasterPlaysWrongFalsely : Prop := masterPlaysRow.holds Try.pinned (OpenSpec.ofChange masterPlaysWrong)

/-- 'ostinatolaw9.ClockPlays': WHATEVER THE INPUT: true; the input reads as it did. -/
def clockPlaysSpec : ChangeSpec := { name := "clockPlays", fn := fun _ => fun
  | [d1, d2] => { results := [.lit (.bool true)], args := [d1, d2] }
  | _ => none }
def clockPlaysRow : OpenClaim := { program := "ytkciakbkiloknaa", sum := "f6661784c54c1dc2a99579bd7a39390f1b6afc00717e200cdce43513c59c0b17", func := "ostinato/ostinatolaw9.ClockPlays", spec := "clockPlays", apart := false }
def ClockPlaysSaid : Prop := clockPlaysRow.holds Try.pinned (OpenSpec.ofChange clockPlaysSpec)

/-- ITS FALSE NEIGHBOUR: 'it returns false'. Refute it at one input. -/
def clockPlaysWrong : ChangeSpec := { name := "clockPlays", fn := fun _ => fun
  | [d1, d2] => { results := [.lit (.bool false)], args := [d1, d2] }
  | _ => none }
def ClockPlaysWrongFalsely : Prop := clockPlaysRow.holds Try.pinned (OpenSpec.ofChange clockPlaysWrong)

/- THE SECOND FORM. 'bulk': how many values and letters a reading holds, each counted each time it is reached (what is shared counts as often as it is met; a slice's spare places count too). A statement '..UptoSaid' is the law's where the arguments, and the package variables that the reading takes, are together of bulk at most 1048576: NARROWER than '..Said'. Prove '..Said' where nothing that the law and all that it calls make is longer than what came in: it says more and counts as full. Else prove '..UptoSaid'. A law counts once. -/
mutual
def uptoBulk {H : Type} : DataW H → Nat
  | .lit (.string bytes) => bytes.length + 1
  | .lit _ => 1
  | .nil => 1
  | .ptr d => uptoBulk d + 1
  | .slice elems spare => uptoBulkAll elems + uptoBulkAll spare + 1
  | .agg parts => uptoBulkAll parts + 1
  | .iface _ d => uptoBulk d + 1
  | .map entries => uptoBulkEntries entries + 1
  | .held _ => 1
def uptoBulkAll {H : Type} : List (DataW H) → Nat
  | [] => 0
  | d :: r => uptoBulk d + uptoBulkAll r
def uptoBulkEntries {H : Type} : List (Lit × DataW H) → Nat
  | [] => 0
  | x :: r => uptoBulkEntry x + uptoBulkEntries r
def uptoBulkEntry {H : Type} : Lit × DataW H → Nat
  | (.string bytes, d) => bytes.length + uptoBulk d + 1
  | (_, d) => uptoBulk d + 1
 end
def uptoSmall : (H : Type) → List (DataW H) → Bool := fun _ ds => decide (uptoBulkAll ds ≤ 1048576)
def OpenSpec.upto (s : _root_.Go.ChangeSpec) : _root_.Go.OpenSpec := { _root_.Go.OpenSpec.ofChange s with cond := some uptoSmall }

/-- 'ostinatolaw10.MarkGoes', WHERE WHAT IT READS IS OF BULK AT MOST 1048576: true; the input reads as it did. -/
def markGoesUptoRow : OpenClaim := { program := "ytkciakbkiloknaa", sum := "f6661784c54c1dc2a99579bd7a39390f1b6afc00717e200cdce43513c59c0b17", func := "ostinato/ostinatolaw10.MarkGoes", spec := "markGoes", apart := false, narrowed := true }
def MarkGoesUptoSaid : Prop := markGoesUptoRow.holds Try.pinned (OpenSpec.upto markGoesSpec)

/-- 'ostinatolaw10.MarkForgets', WHERE WHAT IT READS IS OF BULK AT MOST 1048576: true; the input reads as it did. -/
def markForgetsUptoRow : OpenClaim := { program := "ytkciakbkiloknaa", sum := "f6661784c54c1dc2a99579bd7a39390f1b6afc00717e200cdce43513c59c0b17", func := "ostinato/ostinatolaw10.MarkForgets", spec := "markForgets", apart := false, narrowed := true }
def MarkForgetsUptoSaid : Prop := markForgetsUptoRow.holds Try.pinned (OpenSpec.upto markForgetsSpec)

/-- 'ostinatolaw22.MasterTwo', WHERE WHAT IT READS IS OF BULK AT MOST 1048576: true; the input reads as it did. -/
def masterTwoUptoRow : OpenClaim := { program := "ytkciakbkiloknaa", sum := "f6661784c54c1dc2a99579bd7a39390f1b6afc00717e200cdce43513c59c0b17", func := "ostinato/ostinatolaw22.MasterTwo", spec := "masterTwo", apart := false, narrowed := true }
def MasterTwoUptoSaid : Prop := masterTwoUptoRow.holds Try.pinned (OpenSpec.upto masterTwoSpec)

/-- 'ostinatolaw22.MasterNever', WHERE WHAT IT READS IS OF BULK AT MOST 1048576: true; the input reads as it did. -/
def masterNeverUptoRow : OpenClaim := { program := "ytkciakbkiloknaa", sum := "f6661784c54c1dc2a99579bd7a39390f1b6afc00717e200cdce43513c59c0b17", func := "ostinato/ostinatolaw22.MasterNever", spec := "masterNever", apart := false, narrowed := true }
def MasterNeverUptoSaid : Prop := masterNeverUptoRow.holds Try.pinned (OpenSpec.upto masterNeverSpec)

/-- 'ostinatolaw22.MasterStates', WHERE WHAT IT READS IS OF BULK AT MOST 1048576: true; the input reads as it did. -/
def masterStatesUptoRow : OpenClaim := { program := "ytkciakbkiloknaa", sum := "f6661784c54c1dc2a99579bd7a39390f1b6afc00717e200cdce43513c59c0b17", func := "ostinato/ostinatolaw22.MasterStates", spec := "masterStates", apart := false, narrowed := true }
def MasterStatesUptoSaid : Prop := masterStatesUptoRow.holds Try.pinned (OpenSpec.upto masterStatesSpec)

/-- 'ostinatolaw10.MarkPlays', WHERE WHAT IT READS IS OF BULK AT MOST 1048576: true; the input reads as it did. -/
def markPlaysUptoRow : OpenClaim := { program := "ytkciakbkiloknaa", sum := "f6661784c54c1dc2a99579bd7a39390f1b6afc00717e200cdce43513c59c0b17", func := "ostinato/ostinatolaw10.MarkPlays", spec := "markPlays", apart := false, narrowed := true }
def MarkPlaysUptoSaid : Prop := markPlaysUptoRow.holds Try.pinned (OpenSpec.upto markPlaysSpec)

/-- 'ostinatolaw9.ClockCounts', WHERE WHAT IT READS IS OF BULK AT MOST 1048576: true; the input reads as it did. -/
def clockCountsUptoRow : OpenClaim := { program := "ytkciakbkiloknaa", sum := "f6661784c54c1dc2a99579bd7a39390f1b6afc00717e200cdce43513c59c0b17", func := "ostinato/ostinatolaw9.ClockCounts", spec := "clockCounts", apart := false, narrowed := true }
def ClockCountsUptoSaid : Prop := clockCountsUptoRow.holds Try.pinned (OpenSpec.upto clockCountsSpec)

/-- 'ostinatolaw9.ClockSince', WHERE WHAT IT READS IS OF BULK AT MOST 1048576: true; the input reads as it did. -/
def clockSinceUptoRow : OpenClaim := { program := "ytkciakbkiloknaa", sum := "f6661784c54c1dc2a99579bd7a39390f1b6afc00717e200cdce43513c59c0b17", func := "ostinato/ostinatolaw9.ClockSince", spec := "clockSince", apart := false, narrowed := true }
def ClockSinceUptoSaid : Prop := clockSinceUptoRow.holds Try.pinned (OpenSpec.upto clockSinceSpec)

/-- 'ostinatolaw9.ClockRates', WHERE WHAT IT READS IS OF BULK AT MOST 1048576: true; the input reads as it did. -/
def clockRatesUptoRow : OpenClaim := { program := "ytkciakbkiloknaa", sum := "f6661784c54c1dc2a99579bd7a39390f1b6afc00717e200cdce43513c59c0b17", func := "ostinato/ostinatolaw9.ClockRates", spec := "clockRates", apart := false, narrowed := true }
def ClockRatesUptoSaid : Prop := clockRatesUptoRow.holds Try.pinned (OpenSpec.upto clockRatesSpec)

/-- 'ostinatolaw9.ClockSteady', WHERE WHAT IT READS IS OF BULK AT MOST 1048576: true; the input reads as it did. -/
def clockSteadyUptoRow : OpenClaim := { program := "ytkciakbkiloknaa", sum := "f6661784c54c1dc2a99579bd7a39390f1b6afc00717e200cdce43513c59c0b17", func := "ostinato/ostinatolaw9.ClockSteady", spec := "clockSteady", apart := false, narrowed := true }
def ClockSteadyUptoSaid : Prop := clockSteadyUptoRow.holds Try.pinned (OpenSpec.upto clockSteadySpec)

/-- 'ostinatolaw9.ClockHolds', WHERE WHAT IT READS IS OF BULK AT MOST 1048576: true; the input reads as it did. -/
def clockHoldsUptoRow : OpenClaim := { program := "ytkciakbkiloknaa", sum := "f6661784c54c1dc2a99579bd7a39390f1b6afc00717e200cdce43513c59c0b17", func := "ostinato/ostinatolaw9.ClockHolds", spec := "clockHolds", apart := false, narrowed := true }
def ClockHoldsUptoSaid : Prop := clockHoldsUptoRow.holds Try.pinned (OpenSpec.upto clockHoldsSpec)

/-- 'ostinatolaw22.MasterPlays', WHERE WHAT IT READS IS OF BULK AT MOST 1048576: true; the input reads as it did. -/
def masterPlaysUptoRow : OpenClaim := { program := "ytkciakbkiloknaa", sum := "f6661784c54c1dc2a99579bd7a39390f1b6afc00717e200cdce43513c59c0b17", func := "ostinato/ostinatolaw22.MasterPlays", spec := "masterPlays", apart := false, narrowed := true }
def MasterPlaysUptoSaid : Prop := masterPlaysUptoRow.holds Try.pinned (OpenSpec.upto masterPlaysSpec)

/-- 'ostinatolaw9.ClockPlays', WHERE WHAT IT READS IS OF BULK AT MOST 1048576: true; the input reads as it did. -/
def clockPlaysUptoRow : OpenClaim := { program := "ytkciakbkiloknaa", sum := "f6661784c54c1dc2a99579bd7a39390f1b6afc00717e200cdce43513c59c0b17", func := "ostinato/ostinatolaw9.ClockPlays", spec := "clockPlays", apart := false, narrowed := true }
def ClockPlaysUptoSaid : Prop := clockPlaysUptoRow.holds Try.pinned (OpenSpec.upto clockPlaysSpec)

end Rows
end Go.Proofs.Ytkciakbkiloknaa
