/-
  No cell of these rows narrows 'for every input' (looked for: loops, veiled, ifaces, maps, wideKeys, modest, calm, conditions, laid).
  DERIVED. THE GIVEN ROWS OF THIS SEAT. 9 by the template 'for every input the law returns true; each argument reads behind the call as it read before'; 0 by the template 'total and deterministic' (their statements: YtmbhgipoofllfaaTotals.lean).
  GIVEN WITH THE SEED: the statements are not yours to turn. If you find one false, say at which input.
  Laid BY PROGRAM, IN A SANDBOX (cutbox-rows.mjs): the forced cells as the released guide's own fill.sh prints them over the translation 01f5b750d22c5f4f… (all of the seat's roots in one cut). By AI agents, Wed Nov 11 2026. No macro, syntax, notation, axiom, sorry.
-/
import Derived.Test.YtmbhgipoofllfaaChecked
import GoSem.Claim
import GoSem.ClaimJoined
import GoSem.ClaimMapViews
import Derived.JoinedTies
import Derived.KernelRfl
namespace Go.Proofs.Ytmbhgipoofllfaa
/- THE CELL 'sum', in the pinned program and in every row, IS THE sha256 OF THE DUMP (.gsa) THAT YtmbhgipoofllfaaProg.lean LOADS. Nothing in Lean hashes anything: it is a label: what it is worth is what the hold of that sum in a sandbox is worth. -/
noncomputable def Try.pinned : Pinned := { name := "ytmbhgipoofllfaa", sum := "01f5b750d22c5f4f87dcb9f7fd0ec9931febac6f90a5353be5758813ead2244b", checked := Try.checked }
namespace Rows
def none {H : Type} : Left H := { results := [], args := [] }

/-- 'ostinatolaw17.QueueOrder': WHATEVER THE INPUT: true; the input reads as it did. -/
def queueOrderSpec : ChangeSpec := { name := "queueOrder", fn := fun _ => fun
  | [d1, d2, d3] => { results := [.lit (.bool true)], args := [d1, d2, d3] }
  | _ => none }
def queueOrderRow : OpenClaim := { program := "ytmbhgipoofllfaa", sum := "01f5b750d22c5f4f87dcb9f7fd0ec9931febac6f90a5353be5758813ead2244b", func := "ostinato/ostinatolaw17.QueueOrder", spec := "queueOrder", apart := false }
def QueueOrderSaid : Prop := queueOrderRow.holds Try.pinned (OpenSpec.ofChange queueOrderSpec)

/-- ITS FALSE NEIGHBOUR: 'it returns false'. Refute it at one input. -/
def queueOrderWrong : ChangeSpec := { name := "queueOrder", fn := fun _ => fun
  | [d1, d2, d3] => { results := [.lit (.bool false)], args := [d1, d2, d3] }
  | _ => none }
def QueueOrderWrongFalsely : Prop := queueOrderRow.holds Try.pinned (OpenSpec.ofChange queueOrderWrong)

/-- 'ostinatolaw17.QueueRound': WHATEVER THE INPUT: true; the input reads as it did. -/
def queueRoundSpec : ChangeSpec := { name := "queueRound", fn := fun _ => fun
  | [d1, d2] => { results := [.lit (.bool true)], args := [d1, d2] }
  | _ => none }
def queueRoundRow : OpenClaim := { program := "ytmbhgipoofllfaa", sum := "01f5b750d22c5f4f87dcb9f7fd0ec9931febac6f90a5353be5758813ead2244b", func := "ostinato/ostinatolaw17.QueueRound", spec := "queueRound", apart := false }
def QueueRoundSaid : Prop := queueRoundRow.holds Try.pinned (OpenSpec.ofChange queueRoundSpec)

/-- ITS FALSE NEIGHBOUR: 'it returns false'. Refute it at one input. -/
def queueRoundWrong : ChangeSpec := { name := "queueRound", fn := fun _ => fun
  | [d1, d2] => { results := [.lit (.bool false)], args := [d1, d2] }
  | _ => none }
def QueueRoundWrongFalsely : Prop := queueRoundRow.holds Try.pinned (OpenSpec.ofChange queueRoundWrong)

/-- 'ostinatolaw17.QueueRooms': WHATEVER THE INPUT: true; the input reads as it did. -/
def queueRoomsSpec : ChangeSpec := { name := "queueRooms", fn := fun _ => fun
  | [d] => { results := [.lit (.bool true)], args := [d] }
  | _ => none }
def queueRoomsRow : OpenClaim := { program := "ytmbhgipoofllfaa", sum := "01f5b750d22c5f4f87dcb9f7fd0ec9931febac6f90a5353be5758813ead2244b", func := "ostinato/ostinatolaw17.QueueRooms", spec := "queueRooms", apart := false }
def QueueRoomsSaid : Prop := queueRoomsRow.holds Try.pinned (OpenSpec.ofChange queueRoomsSpec)

/-- ITS FALSE NEIGHBOUR: 'it returns false'. Refute it at one input. -/
def queueRoomsWrong : ChangeSpec := { name := "queueRooms", fn := fun _ => fun
  | [d] => { results := [.lit (.bool false)], args := [d] }
  | _ => none }
def QueueRoomsWrongFalsely : Prop := queueRoomsRow.holds Try.pinned (OpenSpec.ofChange queueRoomsWrong)

/-- 'ostinatolaw17.QueuePlays': WHATEVER THE INPUT: true; the input reads as it did. -/
def queuePlaysSpec : ChangeSpec := { name := "queuePlays", fn := fun _ => fun
  | [d1, d2] => { results := [.lit (.bool true)], args := [d1, d2] }
  | _ => none }
def queuePlaysRow : OpenClaim := { program := "ytmbhgipoofllfaa", sum := "01f5b750d22c5f4f87dcb9f7fd0ec9931febac6f90a5353be5758813ead2244b", func := "ostinato/ostinatolaw17.QueuePlays", spec := "queuePlays", apart := false }
def QueuePlaysSaid : Prop := queuePlaysRow.holds Try.pinned (OpenSpec.ofChange queuePlaysSpec)

/-- ITS FALSE NEIGHBOUR: 'it returns false'. Refute it at one input. -/
def queuePlaysWrong : ChangeSpec := { name := "queuePlays", fn := fun _ => fun
  | [d1, d2] => { results := [.lit (.bool false)], args := [d1, d2] }
  | _ => none }
def QueuePlaysWrongFalsely : Prop := queuePlaysRow.holds Try.pinned (OpenSpec.ofChange queuePlaysWrong)

/-- 'ostinatolaw17.QueueCopies': WHATEVER THE INPUT: true; the input reads as it did. -/
def queueCopiesSpec : ChangeSpec := { name := "queueCopies", fn := fun _ => fun
  | [d1, d2] => { results := [.lit (.bool true)], args := [d1, d2] }
  | _ => none }
def queueCopiesRow : OpenClaim := { program := "ytmbhgipoofllfaa", sum := "01f5b750d22c5f4f87dcb9f7fd0ec9931febac6f90a5353be5758813ead2244b", func := "ostinato/ostinatolaw17.QueueCopies", spec := "queueCopies", apart := false }
def QueueCopiesSaid : Prop := queueCopiesRow.holds Try.pinned (OpenSpec.ofChange queueCopiesSpec)

/-- ITS FALSE NEIGHBOUR: 'it returns false'. Refute it at one input. -/
def queueCopiesWrong : ChangeSpec := { name := "queueCopies", fn := fun _ => fun
  | [d1, d2] => { results := [.lit (.bool false)], args := [d1, d2] }
  | _ => none }
def QueueCopiesWrongFalsely : Prop := queueCopiesRow.holds Try.pinned (OpenSpec.ofChange queueCopiesWrong)

/-- 'ostinatolaw18.ObjectStates': WHATEVER THE INPUT: true; the input reads as it did. -/
def objectStatesSpec : ChangeSpec := { name := "objectStates", fn := fun _ => fun
  | [d] => { results := [.lit (.bool true)], args := [d] }
  | _ => none }
def objectStatesRow : OpenClaim := { program := "ytmbhgipoofllfaa", sum := "01f5b750d22c5f4f87dcb9f7fd0ec9931febac6f90a5353be5758813ead2244b", func := "ostinato/ostinatolaw18.ObjectStates", spec := "objectStates", apart := false }
def ObjectStatesSaid : Prop := objectStatesRow.holds Try.pinned (OpenSpec.ofChange objectStatesSpec)

/-- ITS FALSE NEIGHBOUR: 'it returns false'. Refute it at one input. -/
def objectStatesWrong : ChangeSpec := { name := "objectStates", fn := fun _ => fun
  | [d] => { results := [.lit (.bool false)], args := [d] }
  | _ => none }
def ObjectStatesWrongFalsely : Prop := objectStatesRow.holds Try.pinned (OpenSpec.ofChange objectStatesWrong)

/-- 'ostinatolaw18.ObjectOwners': WHATEVER THE INPUT: true; the input reads as it did. -/
def objectOwnersSpec : ChangeSpec := { name := "objectOwners", fn := fun _ => fun
  | [d1, d2, d3] => { results := [.lit (.bool true)], args := [d1, d2, d3] }
  | _ => none }
def objectOwnersRow : OpenClaim := { program := "ytmbhgipoofllfaa", sum := "01f5b750d22c5f4f87dcb9f7fd0ec9931febac6f90a5353be5758813ead2244b", func := "ostinato/ostinatolaw18.ObjectOwners", spec := "objectOwners", apart := false }
def ObjectOwnersSaid : Prop := objectOwnersRow.holds Try.pinned (OpenSpec.ofChange objectOwnersSpec)

/-- ITS FALSE NEIGHBOUR: 'it returns false'. Refute it at one input. -/
def objectOwnersWrong : ChangeSpec := { name := "objectOwners", fn := fun _ => fun
  | [d1, d2, d3] => { results := [.lit (.bool false)], args := [d1, d2, d3] }
  | _ => none }
def ObjectOwnersWrongFalsely : Prop := objectOwnersRow.holds Try.pinned (OpenSpec.ofChange objectOwnersWrong)

/-- 'ostinatolaw18.ObjectComes': WHATEVER THE INPUT: true; the input reads as it did. -/
def objectComesSpec : ChangeSpec := { name := "objectComes", fn := fun _ => fun
  | [d1, d2] => { results := [.lit (.bool true)], args := [d1, d2] }
  | _ => none }
def objectComesRow : OpenClaim := { program := "ytmbhgipoofllfaa", sum := "01f5b750d22c5f4f87dcb9f7fd0ec9931febac6f90a5353be5758813ead2244b", func := "ostinato/ostinatolaw18.ObjectComes", spec := "objectComes", apart := false }
def ObjectComesSaid : Prop := objectComesRow.holds Try.pinned (OpenSpec.ofChange objectComesSpec)

/-- ITS FALSE NEIGHBOUR: 'it returns false'. Refute it at one input. -/
def objectComesWrong : ChangeSpec := { name := "objectComes", fn := fun _ => fun
  | [d1, d2] => { results := [.lit (.bool false)], args := [d1, d2] }
  | _ => none }
def ObjectComesWrongFalsely : Prop := objectComesRow.holds Try.pinned (OpenSpec.ofChange objectComesWrong)

/-- 'ostinatolaw18.ObjectPlays': WHATEVER THE INPUT: true; the input reads as it did. -/
def objectPlaysSpec : ChangeSpec := { name := "objectPlays", fn := fun _ => fun
  | [d1, d2, d3] => { results := [.lit (.bool true)], args := [d1, d2, d3] }
  | _ => none }
def objectPlaysRow : OpenClaim := { program := "ytmbhgipoofllfaa", sum := "01f5b750d22c5f4f87dcb9f7fd0ec9931febac6f90a5353be5758813ead2244b", func := "ostinato/ostinatolaw18.ObjectPlays", spec := "objectPlays", inPlace := ["maps.clone"], apart := false }
def ObjectPlaysSaid : Prop := objectPlaysRow.holds Try.pinned (OpenSpec.ofChange objectPlaysSpec)

/-- ITS FALSE NEIGHBOUR: 'it returns false'. Refute it at one input. -/
def objectPlaysWrong : ChangeSpec := { name := "objectPlays", fn := fun _ => fun
  | [d1, d2, d3] => { results := [.lit (.bool false)], args := [d1, d2, d3] }
  | _ => none }
def ObjectPlaysWrongFalsely : Prop := objectPlaysRow.holds Try.pinned (OpenSpec.ofChange objectPlaysWrong)

/- THE SECOND FORM. 'bulk': how many values and letters a reading holds, each counted each time it is reached (what is shared counts as often as it is met; a slice's spare places count too). A statement '..UptoSaid' is the law's where the arguments, and the package variables that the reading takes, are together of bulk at most 1048576: NARROWER than '..Said'. Prove '..Said' where nothing that the law and all that it calls make is longer than what came in: it says more and counts as full. Else prove '..UptoSaid'. A law counts once. -/
mutual
def uptoBulk {H : Type} : DataW H → Nat
  | .lit (.string bytes) => bytes.length + 1
  | .lit _ => 1
  | .nil => 1
  | .ptr d => uptoBulk d + 1
  | .slice elems spare => uptoBulkAll elems + uptoBulkAll spare + 1
  | .agg parts => uptoBulkAll parts + 1
  | .iface _ d => uptoBulk d + 1
  | .map entries => uptoBulkEntries entries + 1
  | .held _ => 1
def uptoBulkAll {H : Type} : List (DataW H) → Nat
  | [] => 0
  | d :: r => uptoBulk d + uptoBulkAll r
def uptoBulkEntries {H : Type} : List (Lit × DataW H) → Nat
  | [] => 0
  | x :: r => uptoBulkEntry x + uptoBulkEntries r
def uptoBulkEntry {H : Type} : Lit × DataW H → Nat
  | (.string bytes, d) => bytes.length + uptoBulk d + 1
  | (_, d) => uptoBulk d + 1
 end
def uptoSmall : (H : Type) → List (DataW H) → Bool := fun _ ds => decide (uptoBulkAll ds ≤ 1048576)
def OpenSpec.upto (s : _root_.Go.ChangeSpec) : _root_.Go.OpenSpec := { _root_.Go.OpenSpec.ofChange s with cond := some uptoSmall }

/-- 'ostinatolaw17.QueueOrder', WHERE WHAT IT READS IS OF BULK AT MOST 1048576: true; the input reads as it did. -/
def queueOrderUptoRow : OpenClaim := { program := "ytmbhgipoofllfaa", sum := "01f5b750d22c5f4f87dcb9f7fd0ec9931febac6f90a5353be5758813ead2244b", func := "ostinato/ostinatolaw17.QueueOrder", spec := "queueOrder", apart := false, narrowed := true }
def QueueOrderUptoSaid : Prop := queueOrderUptoRow.holds Try.pinned (OpenSpec.upto queueOrderSpec)

/-- 'ostinatolaw17.QueueRound', WHERE WHAT IT READS IS OF BULK AT MOST 1048576: true; the input reads as it did. -/
def queueRoundUptoRow : OpenClaim := { program := "ytmbhgipoofllfaa", sum := "01f5b750d22c5f4f87dcb9f7fd0ec9931febac6f90a5353be5758813ead2244b", func := "ostinato/ostinatolaw17.QueueRound", spec := "queueRound", apart := false, narrowed := true }
def QueueRoundUptoSaid : Prop := queueRoundUptoRow.holds Try.pinned (OpenSpec.upto queueRoundSpec)

/-- 'ostinatolaw17.QueueRooms', WHERE WHAT IT READS IS OF BULK AT MOST 1048576: true; the input reads as it did. -/
def queueRoomsUptoRow : OpenClaim := { program := "ytmbhgipoofllfaa", sum := "01f5b750d22c5f4f87dcb9f7fd0ec9931febac6f90a5353be5758813ead2244b", func := "ostinato/ostinatolaw17.QueueRooms", spec := "queueRooms", apart := false, narrowed := true }
def QueueRoomsUptoSaid : Prop := queueRoomsUptoRow.holds Try.pinned (OpenSpec.upto queueRoomsSpec)

/-- 'ostinatolaw17.QueuePlays', WHERE WHAT IT READS IS OF BULK AT MOST 1048576: true; the input reads as it did. -/
def queuePlaysUptoRow : OpenClaim := { program := "ytmbhgipoofllfaa", sum := "01f5b750d22c5f4f87dcb9f7fd0ec9931febac6f90a5353be5758813ead2244b", func := "ostinato/ostinatolaw17.QueuePlays", spec := "queuePlays", apart := false, narrowed := true }
def QueuePlaysUptoSaid : Prop := queuePlaysUptoRow.holds Try.pinned (OpenSpec.upto queuePlaysSpec)

/-- 'ostinatolaw17.QueueCopies', WHERE WHAT IT READS IS OF BULK AT MOST 1048576: true; the input reads as it did. -/
def queueCopiesUptoRow : OpenClaim := { program := "ytmbhgipoofllfaa", sum := "01f5b750d22c5f4f87dcb9f7fd0ec9931febac6f90a5353be5758813ead2244b", func := "ostinato/ostinatolaw17.QueueCopies", spec := "queueCopies", apart := false, narrowed := true }
def QueueCopiesUptoSaid : Prop := queueCopiesUptoRow.holds Try.pinned (OpenSpec.upto queueCopiesSpec)

/-- 'ostinatolaw18.ObjectStates', WHERE WHAT IT READS IS OF BULK AT MOST 1048576: true; the input reads as it did. -/
def objectStatesUptoRow : OpenClaim := { program := "ytmbhgipoofllfaa", sum := "01f5b750d22c5f4f87dcb9f7fd0ec9931febac6f90a5353be5758813ead2244b", func := "ostinato/ostinatolaw18.ObjectStates", spec := "objectStates", apart := false, narrowed := true }
def ObjectStatesUptoSaid : Prop := objectStatesUptoRow.holds Try.pinned (OpenSpec.upto objectStatesSpec)

/-- 'ostinatolaw18.ObjectOwners', WHERE WHAT IT READS IS OF BULK AT MOST 1048576: true; the input reads as it did. -/
def objectOwnersUptoRow : OpenClaim := { program := "ytmbhgipoofllfaa", sum := "01f5b750d22c5f4f87dcb9f7fd0ec9931febac6f90a5353be5758813ead2244b", func := "ostinato/ostinatolaw18.ObjectOwners", spec := "objectOwners", apart := false, narrowed := true }
def ObjectOwnersUptoSaid : Prop := objectOwnersUptoRow.holds Try.pinned (OpenSpec.upto objectOwnersSpec)

/-- 'ostinatolaw18.ObjectComes', WHERE WHAT IT READS IS OF BULK AT MOST 1048576: true; the input reads as it did. -/
def objectComesUptoRow : OpenClaim := { program := "ytmbhgipoofllfaa", sum := "01f5b750d22c5f4f87dcb9f7fd0ec9931febac6f90a5353be5758813ead2244b", func := "ostinato/ostinatolaw18.ObjectComes", spec := "objectComes", apart := false, narrowed := true }
def ObjectComesUptoSaid : Prop := objectComesUptoRow.holds Try.pinned (OpenSpec.upto objectComesSpec)

/-- 'ostinatolaw18.ObjectPlays', WHERE WHAT IT READS IS OF BULK AT MOST 1048576: true; the input reads as it did. -/
def objectPlaysUptoRow : OpenClaim := { program := "ytmbhgipoofllfaa", sum := "01f5b750d22c5f4f87dcb9f7fd0ec9931febac6f90a5353be5758813ead2244b", func := "ostinato/ostinatolaw18.ObjectPlays", spec := "objectPlays", inPlace := ["maps.clone"], apart := false, narrowed := true }
def ObjectPlaysUptoSaid : Prop := objectPlaysUptoRow.holds Try.pinned (OpenSpec.upto objectPlaysSpec)

end Rows
end Go.Proofs.Ytmbhgipoofllfaa
