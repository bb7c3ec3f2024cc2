/- config's reader: lists. -/
import Derived.Test.YthkhlcigegbpfaaReader
import Derived.Deep.LoopGhost
import Derived.LoopN
namespace Go.Proofs.Ythkhlcigegbpfaa
set_option linter.unusedVariables false
set_option linter.unusedSimpArgs false
open Go.ChangeShapes Go.WideShapes Go.ChangeAt Go.RowKit Go.Deep

theorem int_infoC : (Try.prog.info? 3).map (fun i => (i.zero, i.size, i.bytes)) = some (some (.int .i64 0), 1, 8) := by kernel_rfl
theorem msg_infoC : (Try.prog.info? 53).map (fun i => (i.zero, i.size, i.bytes)) = some (some (.agg #[.int .u32 0, .int .i64 0, .bool false]), 3, 24) := by kernel_rfl
theorem win_infoC : (Try.prog.info? 56).map (fun i => (i.zero, i.size, i.bytes)) = some (some (.agg #[.int .i64 0, .int .i64 0, .int .i64 0, .int .i64 0, .int .i64 0, .int .i64 0]), 6, 48) := by kernel_rfl
/-- The matrix's block, its lists' rows, the reader's block. -/
structure Prs (R : Rs → Obj) (B : Nat) (w0 : World) (br bm : Nat) (m : Mat) (x : Rs) (L : List (Nat × Obj)) (v1 v2 v3 : Value) (L1 L2 L3 : List (Nat × Obj)) (w : World) : Prop where
  r1 : RowL 3 1 v1 m.masters.length (m.masters.flatMap intC) L1
  r2 : RowL 53 3 v2 m.msgs.length (m.msgs.flatMap msgC) L2
  r3 : RowL 56 6 v3 m.wins.length (m.wins.flatMap winC) L3
  own : Own B w0 ((br, R x) :: (bm, boxM m v1 v2 v3) :: (L1 ++ (L2 ++ (L3 ++ L)))) w
section
variable {R : Rs → Obj} {B br bm : Nat} {w0 w w' : World} {m : Mat} {x : Rs} {L L1 L2 L3 : List (Nat × Obj)} {v1 v2 v3 : Value}
theorem Prs.keep (h : Prs R B w0 br bm m x L v1 v2 v3 L1 L2 L3 w) (u : Below w.heap.size w w') : Prs R B w0 br bm m x L v1 v2 v3 L1 L2 L3 w' := ⟨h.r1, h.r2, h.r3, h.own.keep u⟩
theorem Prs.drew (h : Prs R B w0 br bm m x L v1 v2 v3 L1 L2 L3 w) : Prs R B w0 br bm m x L v1 v2 v3 L1 L2 L3 w.drew := ⟨h.r1, h.r2, h.r3, h.own.drew⟩
theorem Prs.read {y : Rs} (h : Prs R B w0 br bm m x L v1 v2 v3 L1 L2 L3 w) (u : Upd br (R y) w w') : Prs R B w0 br bm m y L v1 v2 v3 L1 L2 L3 w' := ⟨h.r1, h.r2, h.r3, h.own.upd0 u⟩
theorem Prs.get {z : Nat × Obj} (h : Prs R B w0 br bm m x L v1 v2 v3 L1 L2 L3 w) (hz : z ∈ L) : w.heap[z.1]? = some z.2 := (h.own.all z.1 z.2 (by simp [hz])).2
theorem Prs.box (h : Prs R B w0 br bm m x L v1 v2 v3 L1 L2 L3 w) : w.heap[bm]? = some (boxM m v1 v2 v3) := h.own.get1
theorem Prs.bel (h : Prs R B w0 br bm m x L v1 v2 v3 L1 L2 L3 w) : Below B w0 w := h.own.bel
theorem Prs.sz (h : Prs R B w0 br bm m x L v1 v2 v3 L1 L2 L3 w) : B ≤ w.heap.size := h.own.sz
theorem Prs.rd (h : Prs R B w0 br bm m x L v1 v2 v3 L1 L2 L3 w) (ho : m.Ok) : RdM w m v1 v2 v3 := by
  have h1 : Own B w0 (L1 ++ (L2 ++ (L3 ++ L))) w := h.own.drop.drop
  refine ⟨ho, h.r1.rd intC_len h1, h.r2.rd msgC_len h1.right, h.r3.rd winC_len h1.right.right⟩
theorem Prs.drop {z : Nat × Obj} (h : Prs R B w0 br bm m x (z :: L) v1 v2 v3 L1 L2 L3 w) : Prs R B w0 br bm m x L v1 v2 v3 L1 L2 L3 w :=
  ⟨h.r1, h.r2, h.r3, h.own.sub (by
    refine List.Sublist.cons_cons _ (List.Sublist.cons_cons _ (List.Sublist.append_left (List.Sublist.append_left (List.Sublist.append_left ?_ _) _) _))
    exact List.sublist_cons_self _ _)⟩
theorem Prs.alloc (h : Prs R B w0 br bm m x L v1 v2 v3 L1 L2 L3 w) (o : Obj) : Prs R B w0 br bm m x ((w.heap.size, o) :: L) v1 v2 v3 L1 L2 L3 (w.alloc o) :=
  ⟨h.r1, h.r2, h.r3, (h.own.alloc o).perm' (by
    have := (List.perm_middle (a := (w.heap.size, o)) (l₁ := (br, R x) :: (bm, boxM m v1 v2 v3) :: (L1 ++ (L2 ++ L3))) (l₂ := L)).symm
    simpa using this)⟩
theorem Prs.box0 {z : Nat × Obj} {o' : Obj} (h : Prs R B w0 br bm m x (z :: L) v1 v2 v3 L1 L2 L3 w) (u : Upd z.1 o' w w') : Prs R B w0 br bm m x ((z.1, o') :: L) v1 v2 v3 L1 L2 L3 w' :=
  ⟨h.r1, h.r2, h.r3, by
    have h1 : Own B w0 (((br, R x) :: (bm, boxM m v1 v2 v3) :: (L1 ++ (L2 ++ L3))) ++ (z.1, z.2) :: L) w := h.own.perm' (by simp)
    exact (h1.upd u).perm' (by simp)⟩
/-- A row has grown: the list's value in the block is the old one still. -/
theorem Prs.grown1 (h : Prs R B w0 br bm m x L v1 v2 v3 L1 L2 L3 w) {g cap n' : Nat} {xs' : List Value} (hown : w'.ownsRow B 3 1 (.slice (some ⟨g, 0, none⟩) n' cap) n' xs') (hg : w.grownBy w' v1.ownBlock)
    (hat : v1.ownBlock = some g ∨ g = w.heap.size) : ∃ L1', RowL 3 1 (.slice (some ⟨g, 0, none⟩) n' cap) n' xs' L1' ∧ Own B w0 ((br, R x) :: (bm, boxM m v1 v2 v3) :: (L1' ++ (L2 ++ (L3 ++ L)))) w' := by
  have h1 : Own B w0 (L1 ++ ((br, R x) :: (bm, boxM m v1 v2 v3) :: (L2 ++ (L3 ++ L)))) w := h.own.perm' (by
    exact (List.perm_append_comm_assoc [(br, R x), (bm, boxM m v1 v2 v3)] L1 (L2 ++ (L3 ++ L))))
  obtain ⟨L1', hR, hO⟩ := h.r1.grown h1 hown hg hat
  exact ⟨L1', hR, hO.perm' (List.perm_append_comm_assoc L1' [(br, R x), (bm, boxM m v1 v2 v3)] (L2 ++ (L3 ++ L)))⟩
theorem Prs.grown2 (h : Prs R B w0 br bm m x L v1 v2 v3 L1 L2 L3 w) {g cap n' : Nat} {xs' : List Value} (hown : w'.ownsRow B 53 3 (.slice (some ⟨g, 0, none⟩) n' cap) n' xs') (hg : w.grownBy w' v2.ownBlock)
    (hat : v2.ownBlock = some g ∨ g = w.heap.size) : ∃ L2', RowL 53 3 (.slice (some ⟨g, 0, none⟩) n' cap) n' xs' L2' ∧ Own B w0 ((br, R x) :: (bm, boxM m v1 v2 v3) :: (L1 ++ (L2' ++ (L3 ++ L)))) w' := by
  have h1 : Own B w0 (L2 ++ ((br, R x) :: (bm, boxM m v1 v2 v3) :: (L1 ++ (L3 ++ L)))) w := h.own.perm' (by
    have := List.perm_append_comm_assoc ((br, R x) :: (bm, boxM m v1 v2 v3) :: L1) L2 (L3 ++ L)
    simpa using this)
  obtain ⟨L2', hR, hO⟩ := h.r2.grown h1 hown hg hat
  refine ⟨L2', hR, hO.perm' ?_⟩
  have := List.perm_append_comm_assoc L2' ((br, R x) :: (bm, boxM m v1 v2 v3) :: L1) (L3 ++ L)
  simpa using this
theorem Prs.grown3 (h : Prs R B w0 br bm m x L v1 v2 v3 L1 L2 L3 w) {g cap n' : Nat} {xs' : List Value} (hown : w'.ownsRow B 56 6 (.slice (some ⟨g, 0, none⟩) n' cap) n' xs') (hg : w.grownBy w' v3.ownBlock)
    (hat : v3.ownBlock = some g ∨ g = w.heap.size) : ∃ L3', RowL 56 6 (.slice (some ⟨g, 0, none⟩) n' cap) n' xs' L3' ∧ Own B w0 ((br, R x) :: (bm, boxM m v1 v2 v3) :: (L1 ++ (L2 ++ (L3' ++ L)))) w' := by
  have h1 : Own B w0 (L3 ++ ((br, R x) :: (bm, boxM m v1 v2 v3) :: (L1 ++ (L2 ++ L)))) w := h.own.perm' (by
    have := List.perm_append_comm_assoc ((br, R x) :: (bm, boxM m v1 v2 v3) :: (L1 ++ L2)) L3 L
    simpa using this)
  obtain ⟨L3', hR, hO⟩ := h.r3.grown h1 hown hg hat
  refine ⟨L3', hR, hO.perm' ?_⟩
  have := List.perm_append_comm_assoc L3' ((br, R x) :: (bm, boxM m v1 v2 v3) :: (L1 ++ L2)) L
  simpa using this
theorem Prs.owns1 (h : Prs R B w0 br bm m x L v1 v2 v3 L1 L2 L3 w) : w.ownsRow B 3 1 v1 m.masters.length (m.masters.flatMap intC) :=
  h.r1.owns (R := L2 ++ (L3 ++ L)) h.own.drop.drop
theorem Prs.owns2 (h : Prs R B w0 br bm m x L v1 v2 v3 L1 L2 L3 w) : w.ownsRow B 53 3 v2 m.msgs.length (m.msgs.flatMap msgC) :=
  h.r2.owns (R := L3 ++ L) h.own.drop.drop.right
theorem Prs.owns3 (h : Prs R B w0 br bm m x L v1 v2 v3 L1 L2 L3 w) : w.ownsRow B 56 6 v3 m.wins.length (m.wins.flatMap winC) :=
  h.r3.owns (R := L) h.own.drop.drop.right.right
end
end Go.Proofs.Ythkhlcigegbpfaa
