/- One thing changed makes another matrix: plain words and cells. -/
import Derived.Test.YthkhlcigegbpfaaMatSame
import Derived.Test.YthkhlcigegbpfaaMatCopy2
namespace Go.Proofs.Ythkhlcigegbpfaa
set_option linter.unusedVariables false
set_option linter.unusedSimpArgs false
open Go.ChangeShapes Go.WideShapes Go.ChangeAt Go.RowKit Go.Deep

theorem eqL_ne {α : Type} {p : α → α → Bool} {l1 l2 : List α} (h : l1.length ≠ l2.length) : eqL p l1 l2 = false := by
  unfold eqL
  simp [h]
theorem eqL_off {α : Type} {p : α → α → Bool} {l1 l2 : List α} {k : Nat} {x y : α} (h1 : l1[k]? = some x) (h2 : l2[k]? = some y) (hp : p x y = false) : eqL p l1 l2 = false := by
  rw [Bool.eq_false_iff]
  intro h
  unfold eqL at h
  simp only [Bool.and_eq_true, List.all_eq_true] at h
  have := h.2 (x, y) (List.mem_of_getElem? (i := k) (by rw [List.getElem?_zip_eq_some]; exact ⟨h1, h2⟩))
  simp [hp] at this
theorem same_off1 {a b : Mat} (h : headEq a b = false) : sameB a b = false := by unfold sameB; simp [h]
theorem same_off2 {a b : Mat} (h : eqL (fun (x y : Int) => x == y) a.masters b.masters = false) : sameB a b = false := by unfold sameB; simp [h]
theorem same_off3 {a b : Mat} (h : eqL msgEq a.msgs b.msgs = false) : sameB a b = false := by unfold sameB; simp [h]
theorem same_off4 {a b : Mat} (h : eqL winEq a.wins b.wins = false) : sameB a b = false := by unfold sameB; simp [h]
theorem wrap_apart {n : Int} (h : I64 n) : (n == wrap64 (n + 1)) = false := by
  have hb := bounds_i64 h
  rw [beq_eq_false_iff_ne]
  unfold wrap64
  omega
theorem wrap8_apart {n : Int} (h : U32 n) : (n == (n + 8) % 4294967296) = false := by
  rw [beq_eq_false_iff_ne]
  omega
theorem wrap_ok {n : Int} : I64 (wrap64 n) := wrap64_wf n
theorem wrap32_ok {n : Int} : U32 ((n + 8) % 4294967296) := by
  have := wf_wrap .u32 (n + 8)
  rw [wu32] at this
  exact this
/-- One cell of an element turned: the list with that element turned. -/
theorem RdL_set {α : Type} {K : Nat} {C : α → List Value} {w : World} {g : Nat} {t : TypeId} {l : List α} (hk : ∀ x, (C x).length = K) (hl : l.length ≤ maxLen) {k : Nat} {x y : α} (hx : l[k]? = some x) {j0 : Nat} {v : Value}
    (hj0 : j0 < K) (hC : C y = (C x).set j0 v) (h : w.heap[g]? = some (.cells ((l.flatMap C).toArray.setIfInBounds (k * K + j0) v) t (0, 0))) : RdL K C w (.slice (some ⟨g, 0, none⟩) l.length l.length) (l.set k y) := by
  have hkl : k < l.length := (List.getElem?_eq_some_iff.1 hx).1
  refine ⟨some ⟨g, 0, none⟩, l.length, by simp, by simp, hl, fun i z hi => ⟨g, 0, rfl, lt_of_heap h, fun j u hj => ?_⟩⟩
  have hjK : j < K := by
    have := (List.getElem?_eq_some_iff.1 hj).1
    rw [hk] at this
    exact this
  rw [Nat.zero_add, cell_of h, Array.getElem?_setIfInBounds]
  by_cases hik : i = k
  · subst hik
    have hz : z = y := by
      rw [List.getElem?_set_self hkl] at hi
      exact (Option.some.inj hi).symm
    subst hz
    rw [hC] at hj
    by_cases hjj : j = j0
    · subst hjj
      rw [List.getElem?_set_self (by rw [hk]; exact hj0)] at hj
      have hsz : i * K + j < ((l.flatMap C).toArray).size := by
        rw [List.size_toArray, flatMap_len hk]
        calc i * K + j < i * K + K := by omega
          _ = (i + 1) * K := by rw [Nat.add_mul, Nat.one_mul]
          _ ≤ l.length * K := Nat.mul_le_mul_right _ hkl
      simp only [if_true, hsz]
      simpa using hj
    · rw [List.getElem?_set_ne (fun e => hjj e.symm)] at hj
      rw [if_neg (by omega)]
      simpa using flatMap_at hk l i x j u hx hj
  · rw [List.getElem?_set_ne (fun e => hik e.symm)] at hi
    have hne : k * K + j0 ≠ i * K + j := by
      intro he
      rcases Nat.lt_or_gt_of_ne hik with h1 | h1
      · have : (i + 1) * K ≤ k * K := Nat.mul_le_mul_right _ h1
        rw [Nat.add_mul, Nat.one_mul] at this
        omega
      · have : (k + 1) * K ≤ i * K := Nat.mul_le_mul_right _ h1
        rw [Nat.add_mul, Nat.one_mul] at this
        omega
    rw [if_neg hne]
    simpa using flatMap_at hk l i z j u hi hj
theorem newL_len {α : Type} {C : α → List Value} {t : TypeId} {base : Nat} {w : World} {v : Value} {l : List α} (h : NewL C t base w v l) : ∃ a, v = .slice a l.length l.length ∧ (a = none → l = []) := by
  rcases h with ⟨rfl, rfl⟩ | ⟨g, rfl, _⟩
  · exact ⟨_, rfl, fun _ => rfl⟩
  · exact ⟨_, rfl, by simp⟩
theorem newL_blk {α : Type} {C : α → List Value} {t : TypeId} {base : Nat} {w : World} {v : Value} {l : List α} (h : NewL C t base w v l) (h0 : 0 < l.length) : ∃ g, v = .slice (some ⟨g, 0, none⟩) l.length l.length ∧ base ≤ g ∧ w.heap[g]? = some (.cells (l.flatMap C).toArray t (0, 0)) := by
  rcases h with ⟨_, rfl⟩ | h
  · simp at h0
  · exact h
/-- A block of another kind turned: the list is as it was. -/
theorem NewL.far {α : Type} {C : α → List Value} {base b : Nat} {t t' : TypeId} {xs : Array Value} {o : Obj} {w w' : World} {v : Value} {l : List α} (h : NewL C t base w v l) (u : Upd b o w w') (hb : w.heap[b]? = some (.cells xs t' (0, 0))) (ht : t ≠ t') : NewL C t base w' v l := by
  rcases h with h | ⟨g, e, hl, hg⟩
  · exact .inl h
  · refine .inr ⟨g, e, hl, (u.other g (lt_of_heap hg) ?_).trans hg⟩
    rintro rfl
    rw [hg] at hb
    simp only [Option.some.injEq, Obj.cells.injEq] at hb
    exact ht hb.2.1
theorem ownsRow_of {w w' : World} {base : Nat} {e : TypeId} {size : Nat} {v : Value} {n : Nat} {xs : List Value} (h : w.ownsRow base e size v n xs) (hb : ∀ g, base ≤ g → g < w.heap.size → w'.heap[g]? = w.heap[g]?) : w'.ownsRow base e size v n xs := by
  obtain ⟨hl, h | ⟨g, cap, cur, hv, hg, hc, r⟩⟩ := h
  · exact ⟨hl, .inl h⟩
  · exact ⟨hl, .inr ⟨g, cap, cur, hv, hg, (hb g hg (lt_of_heap hc)).trans hc, r⟩⟩
theorem RdL_owns {α : Type} {K : Nat} {C : α → List Value} {w : World} {base : Nat} {t : TypeId} {v : Value} {l : List α} (hk : ∀ x, (C x).length = K) (h0 : 0 < l.length) (h : w.ownsRow base t K v l.length (l.flatMap C)) : RdL K C w v l := by
  obtain ⟨hl, ⟨_, h1⟩ | ⟨g, cap, cur, rfl, hg, hc, hle, hmx, hsz, htk⟩⟩ := h
  · omega
  · refine ⟨some ⟨g, 0, none⟩, cap, rfl, hle, hmx, fun i x hi => ⟨g, 0, rfl, lt_of_heap hc, fun j u hj => ?_⟩⟩
    have hjK : j < K := by
      have := (List.getElem?_eq_some_iff.1 hj).1
      rw [hk] at this
      exact this
    have hil := (List.getElem?_eq_some_iff.1 hi).1
    have hlt : i * K + j < l.length * K := by
      calc i * K + j < i * K + K := by omega
        _ = (i + 1) * K := by rw [Nat.add_mul, Nat.one_mul]
        _ ≤ l.length * K := Nat.mul_le_mul_right _ hil
    rw [Nat.zero_add, cell_of hc]
    have h2 := flatMap_at hk l i x j u hi hj
    rw [← htk, List.getElem?_take_of_lt hlt] at h2
    simpa using h2
theorem below_grown {w w' : World} (h : w.grownBy w' none) : Below w.heap.size w w' := ⟨h.os, h.tape, h.output, h.size, fun k hk => h.block k hk (by simp)⟩
end Go.Proofs.Ythkhlcigegbpfaa
