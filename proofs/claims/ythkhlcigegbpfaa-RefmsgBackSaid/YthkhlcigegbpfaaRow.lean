/- Rows that a call appends to, among its own blocks. -/
import Derived.Test.YthkhlcigegbpfaaMatSame
import Derived.Test.YthkhlcigegbpfaaOwn2
import Derived.Test.YthkhlcigegbpfaaMatCopy
import Derived.Deep.AppendLies
import Derived.Deep.RegionLaw
namespace Go.Proofs.Ythkhlcigegbpfaa
set_option linter.unusedVariables false
set_option linter.unusedSimpArgs false
open Go.RowKit Go.Deep

/-- The value v is a row of the call's own that reads xs (n elements of 'size' cells); L1: its block, if it has one. -/
def RowL (e : TypeId) (size : Nat) (v : Value) (n : Nat) (xs : List Value) (L1 : List (Nat × Obj)) : Prop :=
  xs.length = n * size ∧ ((v = .slice none 0 0 ∧ n = 0 ∧ L1 = []) ∨
    ∃ g cap cur, v = .slice (some ⟨g, 0, none⟩) n cap ∧ L1 = [(g, .cells cur e (0, 0))] ∧ n ≤ cap ∧ cap ≤ maxLen ∧ cur.size = cap * size ∧ cur.toList.take (n * size) = xs)
theorem Own.perm' {B : Nat} {w0 w : World} {L L' : List (Nat × Obj)} (h : Own B w0 L w) (p : L.Perm L') : Own B w0 L' w := ⟨h.bel, h.sz, (p.map _).nodup_iff.1 h.nd, fun b o hm => h.all b o (p.mem_iff.2 hm)⟩
section
variable {B b : Nat} {w0 w w' : World} {e : TypeId} {size n : Nat} {v : Value} {xs : List Value} {L L1 R : List (Nat × Obj)} {o o' : Obj}
theorem RowL.none_ (e : TypeId) (size : Nat) : RowL e size (.slice none 0 0) 0 [] [] := ⟨by simp, .inl ⟨rfl, rfl, rfl⟩⟩
theorem RowL.len (h : RowL e size v n xs L1) : xs.length = n * size := h.1
theorem RowL.form (h : RowL e size v n xs L1) : ∃ a cap, v = .slice a n cap ∧ n ≤ cap ∧ cap ≤ maxLen := by
  rcases h.2 with ⟨rfl, rfl, _⟩ | ⟨g, cap, cur, rfl, _, h1, h2, _⟩
  · exact ⟨none, 0, rfl, Nat.le_refl _, by simp [maxLen]⟩
  · exact ⟨_, cap, rfl, h1, h2⟩
theorem RowL.owns (h : RowL e size v n xs L1) (hO : Own B w0 (L1 ++ R) w) : w.ownsRow B e size v n xs := by
  refine ⟨h.1, ?_⟩
  rcases h.2 with ⟨h1, h2, _⟩ | ⟨g, cap, cur, rfl, rfl, h1, h2, h3, h4⟩
  · exact .inl ⟨h1, h2⟩
  · have := hO.all g (.cells cur e (0, 0)) (by simp)
    exact .inr ⟨g, cap, cur, rfl, this.1, this.2, h1, h2, h3, h4⟩
theorem RowL.far (h : RowL e size v n xs L1) (hO : Own B w0 (L1 ++ R) w) {b : Nat} {o : Obj} (hm : (b, o) ∈ R) : some b ≠ v.ownBlock := by
  rcases h.2 with ⟨rfl, h2, _⟩ | ⟨g, cap, cur, rfl, rfl, h1, h2, h3, h4⟩
  · simp [Value.ownBlock]
  · have hn := hO.nd
    simp only [List.singleton_append, List.map_cons, List.nodup_cons] at hn
    intro e
    simp [Value.ownBlock] at e
    subst e
    exact hn.1 (List.mem_map.2 ⟨_, hm, rfl⟩)
theorem RowL.grown (h : RowL e size v n xs L1) (hO : Own B w0 (L1 ++ R) w) {g cap n' : Nat} {xs' : List Value} (hown : w'.ownsRow B e size (.slice (some ⟨g, 0, none⟩) n' cap) n' xs') (hg : w.grownBy w' v.ownBlock)
    (hat : v.ownBlock = some g ∨ g = w.heap.size) : ∃ L1', RowL e size (.slice (some ⟨g, 0, none⟩) n' cap) n' xs' L1' ∧ Own B w0 (L1' ++ R) w' := by
  have hl := hown.1
  rcases hown.2 with ⟨h1, _⟩ | ⟨g', cap', cur, e1, hB, hk, h1, h2, h3, h4⟩
  · simp at h1
  · simp only [Value.slice.injEq, Option.some.injEq, Addr.mk.injEq] at e1
    obtain ⟨⟨rfl, _⟩, _, rfl⟩ := e1
    refine ⟨[(g, .cells cur e (0, 0))], ⟨hl, .inr ⟨g, cap, cur, rfl, rfl, h1, h2, h3, h4⟩⟩, ?_⟩
    have hfar : ∀ b o, (b, o) ∈ R → b ≠ g := by
      intro b o hm
      rcases hat with hat | hat
      · have := h.far hO hm
        rw [hat] at this
        exact fun e => this (by rw [e])
      · have := lt_of_heap (hO.all b o (by simp [hm])).2
        omega
    have hkeep : ∀ b o, (b, o) ∈ R → B ≤ b ∧ w'.heap[b]? = some o := by
      intro b o hm
      have ha := hO.all b o (by simp [hm])
      exact ⟨ha.1, (hg.block b (lt_of_heap ha.2) (h.far hO hm)).trans ha.2⟩
    refine ⟨hO.bel.trans ⟨hg.os, hg.tape, hg.output, hg.size, fun k hk' => hg.block k (Nat.lt_of_lt_of_le hk' hO.sz) ?_⟩, Nat.le_trans hO.sz hg.size, ?_, ?_⟩
    · intro e
      have := (h.owns hO).lt k e.symm
      omega
    · simp only [List.singleton_append, List.map_cons, List.nodup_cons]
      refine ⟨fun hm => ?_, ?_⟩
      · obtain ⟨⟨b, o⟩, hm', e⟩ := List.mem_map.1 hm
        exact hfar b o hm' e
      · have hn := hO.nd
        rw [List.map_append] at hn
        exact (List.nodup_append.1 hn).2.1
    · intro b o hm
      rcases List.mem_cons.1 hm with e | hm
      · simp only [Prod.mk.injEq] at e
        obtain ⟨rfl, rfl⟩ := e
        exact ⟨hB, hk⟩
      · exact hkeep b o hm
theorem Own.right (h : Own B w0 (L1 ++ R) w) : Own B w0 R w := h.sub (List.sublist_append_right _ _)
/-- A row that reads elements of K cells. -/
theorem RowL.rd {α : Type} {K : Nat} {C : α → List Value} {l : List α} (hk : ∀ x, (C x).length = K) (h : RowL e K v l.length (l.flatMap C) L1) (hO : Own B w0 (L1 ++ R) w) : RdL K C w v l := by
  rcases h.2 with ⟨rfl, h1, _⟩ | ⟨g, cap, cur, rfl, rfl, hle, hmx, hsz, htk⟩
  · have : l = [] := List.eq_nil_of_length_eq_zero h1
    subst this
    exact ⟨none, 0, rfl, by simp, by simp [maxLen], fun i x hi => by simp at hi⟩
  · have hc := (hO.all g (.cells cur e (0, 0)) (by simp)).2
    refine ⟨some ⟨g, 0, none⟩, cap, rfl, hle, hmx, fun i x hi => ⟨g, 0, rfl, lt_of_heap hc, fun j u hj => ?_⟩⟩
    have hjK : j < K := by
      have := (List.getElem?_eq_some_iff.1 hj).1
      rw [hk] at this
      exact this
    have hil := (List.getElem?_eq_some_iff.1 hi).1
    have hlt : i * K + j < l.length * K := by
      calc i * K + j < i * K + K := by omega
        _ = (i + 1) * K := by rw [Nat.add_mul, Nat.one_mul]
        _ ≤ l.length * K := Nat.mul_le_mul_right _ hil
    rw [Nat.zero_add, cell_of hc]
    have h2 := flatMap_at hk l i x j u hi hj
    rw [← htk, List.getElem?_take_of_lt hlt] at h2
    simpa using h2
end
end Go.Proofs.Ythkhlcigegbpfaa
