/- More on a call's own blocks. -/
import Derived.Test.YthkhlcigegbpfaaOwn
namespace Go.Proofs.Ythkhlcigegbpfaa
open Go.RowKit
theorem Own.sub {B : Nat} {w0 w : World} {L L' : List (Nat × Obj)} (h : Own B w0 L w) (hs : L'.Sublist L) : Own B w0 L' w :=
  ⟨h.bel, h.sz, (hs.map _).nodup h.nd, fun b o hm => h.all b o (hs.subset hm)⟩
theorem Own.more {B g : Nat} {w0 w : World} {o : Obj} {L : List (Nat × Obj)} (h : Own B w0 L w) (hg : w.heap[g]? = some o) (hB : B ≤ g) (hn : ∀ b u, (b, u) ∈ L → b ≠ g) : Own B w0 ((g, o) :: L) w := by
  refine ⟨h.bel, h.sz, ?_, ?_⟩
  · simp only [List.map_cons, List.nodup_cons]
    refine ⟨fun hm => ?_, h.nd⟩
    obtain ⟨⟨b', o'⟩, hm', e⟩ := List.mem_map.1 hm
    exact hn b' o' hm' e
  · intro b' o' hm
    rcases List.mem_cons.1 hm with e | hm
    · simp only [Prod.mk.injEq] at e
      obtain ⟨rfl, rfl⟩ := e
      exact ⟨hB, hg⟩
    · exact h.all b' o' hm
theorem Own.fresh {B : Nat} {w0 w : World} {L : List (Nat × Obj)} (h : Own B w0 L w) {g : Nat} (hg : w.heap.size ≤ g) : B ≤ g ∧ ∀ b u, (b, u) ∈ L → b ≠ g :=
  ⟨Nat.le_trans h.sz hg, fun b u hm => by have := lt_of_heap (h.all b u hm).2; omega⟩
theorem Own.get4 {B b : Nat} {w0 w : World} {o : Obj} {x y z u : Nat × Obj} {L : List (Nat × Obj)} (h : Own B w0 (x :: y :: z :: u :: (b, o) :: L) w) : w.heap[b]? = some o := (h.all b o (by simp)).2
end Go.Proofs.Ythkhlcigegbpfaa
