/- A drawn region walked by hand: operations that read are taken first, operations whose guard is not met are passed over, calls are met by their contracts. -/
import Derived.WalkKit
import Derived.Deep.RegionHeld3
namespace Go.Proofs.Ythkhlcigegbpfaa
set_option linter.unusedVariables false
set_option linter.unusedSimpArgs false
open Go.RowKit
section
variable {P : Program} {ops : Array Oper} {Q : Exit → Act → World → Prop} {S : World → Prop} {i : Nat} {d : Option Tmp} {op : Op} {ty : TypeId} {pos : String} {after : Array Edge} {guard : Option (Nat × Bool)} {v : Value} {fuel : Nat} {listed : Array Bool} {a : Act} {w : World}
theorem take_op (i : Nat) (hi : ops[i]? = some ⟨d, op, ty, pos, after, guard⟩)
    (hs : Region.noSelect ops = true) (hf : Region.free .any ops listed i = true) (hr : (Region.ready .any ops listed).contains i = true)
    (hQ : ∀ c a w, Q (.panic c) (a.put d v) w → Q (.panic c) a w) (hw : Region.wanted ⟨d, op, ty, pos, after, guard⟩ (yielded ops a.tmps) = true)
    (hy : ∀ w, S w → (execOp a.eval ⟨d, op, ty, pos, after, guard⟩).run P w = .ok (.value v) w) (hS : S w)
    (h : wpAnyH P .any ops Q S fuel (listed.setIfInBounds i true) (a.put d v) w) : wpAnyH P .any ops Q S (fuel + 1) listed a w :=
  wpAnyH_take hi hs hf hr hQ (.inl ⟨hw, hy⟩) hS h
theorem skip_op (i : Nat) (hi : ops[i]? = some ⟨d, op, ty, pos, after, guard⟩)
    (hs : Region.noSelect ops = true) (hf : Region.free .any ops listed i = true) (hr : (Region.ready .any ops listed).contains i = true)
    (hQ : ∀ c a w, Q (.panic c) (a.put d undef) w → Q (.panic c) a w) (hw : Region.wanted ⟨d, op, ty, pos, after, guard⟩ (yielded ops a.tmps) = false) (hS : S w)
    (h : wpAnyH P .any ops Q S fuel (listed.setIfInBounds i true) (a.put d undef) w) : wpAnyH P .any ops Q S (fuel + 1) listed a w :=
  wpAnyH_take hi hs hf hr hQ (.inr ⟨hw, rfl⟩) hS h
theorem at_op (i : Nat) (hi : ops[i]? = some ⟨d, op, ty, pos, after, guard⟩) (hr : Region.ready .any ops listed = [i]) (hw : Region.wanted ⟨d, op, ty, pos, after, guard⟩ (yielded ops a.tmps) = true)
    (h : ∀ K' : Act → World → Prop, Shut (∀ a w, S w → (S w → wpAnyH P .any ops Q S fuel (listed.setIfInBounds i true) a w) → K' a w) → Oper.wp P ⟨d, op, ty, pos, after, guard⟩ a w K' Q) : wpAnyH P .any ops Q S (fuel + 1) listed a w :=
  wpAnyH_ready hr (by simp) (AllReadyH.cons hi (fun K hK => by rw [if_pos hw]; exact h K hK) AllReadyH.nil)
end
end Go.Proofs.Ythkhlcigegbpfaa
