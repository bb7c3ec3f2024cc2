/-
  No cell of these rows narrows 'for every input' (looked for: loops, veiled, ifaces, maps, wideKeys, modest, calm, conditions, laid).
  DERIVED. THE GIVEN ROWS OF THIS SEAT. 5 by the template 'for every input the law returns true; each argument reads behind the call as it read before'; 0 by the template 'total and deterministic' (their statements: YthlplemhpnnedaaTotals.lean).
  GIVEN WITH THE SEED: the statements are not yours to turn. If you find one false, say at which input.
  Laid BY PROGRAM, IN A SANDBOX (cutbox-rows.mjs): the forced cells as the released guide's own fill.sh prints them over the translation 5c55d86999eb8b84… (all of the seat's roots in one cut). By AI agents, Wed Nov 11 2026. No macro, syntax, notation, axiom, sorry.
-/
import Derived.Test.YthlplemhpnnedaaChecked
import GoSem.Claim
import GoSem.ClaimJoined
import GoSem.ClaimMapViews
import Derived.JoinedTies
import Derived.KernelRfl
namespace Go.Proofs.Ythlplemhpnnedaa
/- THE CELL 'sum', in the pinned program and in every row, IS THE sha256 OF THE DUMP (.gsa) THAT YthlplemhpnnedaaProg.lean LOADS. Nothing in Lean hashes anything: it is a label: what it is worth is what the hold of that sum in a sandbox is worth. -/
noncomputable def Try.pinned : Pinned := { name := "ythlplemhpnnedaa", sum := "5c55d86999eb8b8453a98f58d8368b7ad773f22461d1026f1edd880a93dda143", checked := Try.checked }
namespace Rows
def none {H : Type} : Left H := { results := [], args := [] }

/-- 'ostinatolaw11.GlobalGoes': WHATEVER THE INPUT: true; the input reads as it did. -/
def globalGoesSpec : ChangeSpec := { name := "globalGoes", fn := fun _ => fun
  | [d1, d2, d3, d4] => { results := [.lit (.bool true)], args := [d1, d2, d3, d4] }
  | _ => none }
def globalGoesRow : OpenClaim := { program := "ythlplemhpnnedaa", sum := "5c55d86999eb8b8453a98f58d8368b7ad773f22461d1026f1edd880a93dda143", func := "ostinato/ostinatolaw11.GlobalGoes", spec := "globalGoes", apart := false }
def GlobalGoesSaid : Prop := globalGoesRow.holds Try.pinned (OpenSpec.ofChange globalGoesSpec)

/-- ITS FALSE NEIGHBOUR: 'it returns false'. Refute it at one input. -/
def globalGoesWrong : ChangeSpec := { name := "globalGoes", fn := fun _ => fun
  | [d1, d2, d3, d4] => { results := [.lit (.bool false)], args := [d1, d2, d3, d4] }
  | _ => none }
def GlobalGoesWrongFalsely : Prop := globalGoesRow.holds Try.pinned (OpenSpec.ofChange globalGoesWrong)

/-- 'ostinatolaw11.GlobalRates': WHATEVER THE INPUT: true; the input reads as it did. -/
def globalRatesSpec : ChangeSpec := { name := "globalRates", fn := fun _ => fun
  | [d1, d2, d3, d4, d5] => { results := [.lit (.bool true)], args := [d1, d2, d3, d4, d5] }
  | _ => none }
def globalRatesRow : OpenClaim := { program := "ythlplemhpnnedaa", sum := "5c55d86999eb8b8453a98f58d8368b7ad773f22461d1026f1edd880a93dda143", func := "ostinato/ostinatolaw11.GlobalRates", spec := "globalRates", apart := false }
def GlobalRatesSaid : Prop := globalRatesRow.holds Try.pinned (OpenSpec.ofChange globalRatesSpec)

/-- ITS FALSE NEIGHBOUR: 'it returns false'. Refute it at one input. -/
def globalRatesWrong : ChangeSpec := { name := "globalRates", fn := fun _ => fun
  | [d1, d2, d3, d4, d5] => { results := [.lit (.bool false)], args := [d1, d2, d3, d4, d5] }
  | _ => none }
def GlobalRatesWrongFalsely : Prop := globalRatesRow.holds Try.pinned (OpenSpec.ofChange globalRatesWrong)

/-- 'ostinatolaw11.GlobalSame': WHATEVER THE INPUT: true; the input reads as it did. -/
def globalSameSpec : ChangeSpec := { name := "globalSame", fn := fun _ => fun
  | [d1, d2, d3, d4, d5] => { results := [.lit (.bool true)], args := [d1, d2, d3, d4, d5] }
  | _ => none }
def globalSameRow : OpenClaim := { program := "ythlplemhpnnedaa", sum := "5c55d86999eb8b8453a98f58d8368b7ad773f22461d1026f1edd880a93dda143", func := "ostinato/ostinatolaw11.GlobalSame", spec := "globalSame", apart := false }
def GlobalSameSaid : Prop := globalSameRow.holds Try.pinned (OpenSpec.ofChange globalSameSpec)

/-- ITS FALSE NEIGHBOUR: 'it returns false'. Refute it at one input. -/
def globalSameWrong : ChangeSpec := { name := "globalSame", fn := fun _ => fun
  | [d1, d2, d3, d4, d5] => { results := [.lit (.bool false)], args := [d1, d2, d3, d4, d5] }
  | _ => none }
def GlobalSameWrongFalsely : Prop := globalSameRow.holds Try.pinned (OpenSpec.ofChange globalSameWrong)

/-- 'ostinatolaw11.GlobalSteady': WHATEVER THE INPUT: true; the input reads as it did. -/
def globalSteadySpec : ChangeSpec := { name := "globalSteady", fn := fun _ => fun
  | [d] => { results := [.lit (.bool true)], args := [d] }
  | _ => none }
def globalSteadyRow : OpenClaim := { program := "ythlplemhpnnedaa", sum := "5c55d86999eb8b8453a98f58d8368b7ad773f22461d1026f1edd880a93dda143", func := "ostinato/ostinatolaw11.GlobalSteady", spec := "globalSteady", apart := false }
def GlobalSteadySaid : Prop := globalSteadyRow.holds Try.pinned (OpenSpec.ofChange globalSteadySpec)

/-- ITS FALSE NEIGHBOUR: 'it returns false'. Refute it at one input. -/
def globalSteadyWrong : ChangeSpec := { name := "globalSteady", fn := fun _ => fun
  | [d] => { results := [.lit (.bool false)], args := [d] }
  | _ => none }
def GlobalSteadyWrongFalsely : Prop := globalSteadyRow.holds Try.pinned (OpenSpec.ofChange globalSteadyWrong)

/-- 'ostinatolaw11.GlobalPlays': WHATEVER THE INPUT: true; the input reads as it did. -/
def globalPlaysSpec : ChangeSpec := { name := "globalPlays", fn := fun _ => fun
  | [d1, d2, d3] => { results := [.lit (.bool true)], args := [d1, d2, d3] }
  | _ => none }
def globalPlaysRow : OpenClaim := { program := "ythlplemhpnnedaa", sum := "5c55d86999eb8b8453a98f58d8368b7ad773f22461d1026f1edd880a93dda143", func := "ostinato/ostinatolaw11.GlobalPlays", spec := "globalPlays", apart := false }
def GlobalPlaysSaid : Prop := globalPlaysRow.holds Try.pinned (OpenSpec.ofChange globalPlaysSpec)

/-- ITS FALSE NEIGHBOUR: 'it returns false'. Refute it at one input. -/
def globalPlaysWrong : ChangeSpec := { name := "globalPlays", fn := fun _ => fun
  | [d1, d2, d3] => { results := [.lit (.bool false)], args := [d1, d2, d3] }
  | _ => none }
def GlobalPlaysWrongFalsely : Prop := globalPlaysRow.holds Try.pinned (OpenSpec.ofChange globalPlaysWrong)

/- THE SECOND FORM. 'bulk': how many values and letters a reading holds, each counted each time it is reached (what is shared counts as often as it is met; a slice's spare places count too). A statement '..UptoSaid' is the law's where the arguments, and the package variables that the reading takes, are together of bulk at most 1048576: NARROWER than '..Said'. Prove '..Said' where nothing that the law and all that it calls make is longer than what came in: it says more and counts as full. Else prove '..UptoSaid'. A law counts once. -/
mutual
def uptoBulk {H : Type} : DataW H → Nat
  | .lit (.string bytes) => bytes.length + 1
  | .lit _ => 1
  | .nil => 1
  | .ptr d => uptoBulk d + 1
  | .slice elems spare => uptoBulkAll elems + uptoBulkAll spare + 1
  | .agg parts => uptoBulkAll parts + 1
  | .iface _ d => uptoBulk d + 1
  | .map entries => uptoBulkEntries entries + 1
  | .held _ => 1
def uptoBulkAll {H : Type} : List (DataW H) → Nat
  | [] => 0
  | d :: r => uptoBulk d + uptoBulkAll r
def uptoBulkEntries {H : Type} : List (Lit × DataW H) → Nat
  | [] => 0
  | x :: r => uptoBulkEntry x + uptoBulkEntries r
def uptoBulkEntry {H : Type} : Lit × DataW H → Nat
  | (.string bytes, d) => bytes.length + uptoBulk d + 1
  | (_, d) => uptoBulk d + 1
 end
def uptoSmall : (H : Type) → List (DataW H) → Bool := fun _ ds => decide (uptoBulkAll ds ≤ 1048576)
def OpenSpec.upto (s : _root_.Go.ChangeSpec) : _root_.Go.OpenSpec := { _root_.Go.OpenSpec.ofChange s with cond := some uptoSmall }

/-- 'ostinatolaw11.GlobalGoes', WHERE WHAT IT READS IS OF BULK AT MOST 1048576: true; the input reads as it did. -/
def globalGoesUptoRow : OpenClaim := { program := "ythlplemhpnnedaa", sum := "5c55d86999eb8b8453a98f58d8368b7ad773f22461d1026f1edd880a93dda143", func := "ostinato/ostinatolaw11.GlobalGoes", spec := "globalGoes", apart := false, narrowed := true }
def GlobalGoesUptoSaid : Prop := globalGoesUptoRow.holds Try.pinned (OpenSpec.upto globalGoesSpec)

/-- 'ostinatolaw11.GlobalRates', WHERE WHAT IT READS IS OF BULK AT MOST 1048576: true; the input reads as it did. -/
def globalRatesUptoRow : OpenClaim := { program := "ythlplemhpnnedaa", sum := "5c55d86999eb8b8453a98f58d8368b7ad773f22461d1026f1edd880a93dda143", func := "ostinato/ostinatolaw11.GlobalRates", spec := "globalRates", apart := false, narrowed := true }
def GlobalRatesUptoSaid : Prop := globalRatesUptoRow.holds Try.pinned (OpenSpec.upto globalRatesSpec)

/-- 'ostinatolaw11.GlobalSame', WHERE WHAT IT READS IS OF BULK AT MOST 1048576: true; the input reads as it did. -/
def globalSameUptoRow : OpenClaim := { program := "ythlplemhpnnedaa", sum := "5c55d86999eb8b8453a98f58d8368b7ad773f22461d1026f1edd880a93dda143", func := "ostinato/ostinatolaw11.GlobalSame", spec := "globalSame", apart := false, narrowed := true }
def GlobalSameUptoSaid : Prop := globalSameUptoRow.holds Try.pinned (OpenSpec.upto globalSameSpec)

/-- 'ostinatolaw11.GlobalSteady', WHERE WHAT IT READS IS OF BULK AT MOST 1048576: true; the input reads as it did. -/
def globalSteadyUptoRow : OpenClaim := { program := "ythlplemhpnnedaa", sum := "5c55d86999eb8b8453a98f58d8368b7ad773f22461d1026f1edd880a93dda143", func := "ostinato/ostinatolaw11.GlobalSteady", spec := "globalSteady", apart := false, narrowed := true }
def GlobalSteadyUptoSaid : Prop := globalSteadyUptoRow.holds Try.pinned (OpenSpec.upto globalSteadySpec)

/-- 'ostinatolaw11.GlobalPlays', WHERE WHAT IT READS IS OF BULK AT MOST 1048576: true; the input reads as it did. -/
def globalPlaysUptoRow : OpenClaim := { program := "ythlplemhpnnedaa", sum := "5c55d86999eb8b8453a98f58d8368b7ad773f22461d1026f1edd880a93dda143", func := "ostinato/ostinatolaw11.GlobalPlays", spec := "globalPlays", apart := false, narrowed := true }
def GlobalPlaysUptoSaid : Prop := globalPlaysUptoRow.holds Try.pinned (OpenSpec.upto globalPlaysSpec)

end Rows
end Go.Proofs.Ythlplemhpnnedaa
