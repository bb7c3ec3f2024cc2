/- The reference's frames: Is. -/
import Derived.Test.YthkhlcigegbpfaaRmsg2
namespace Go.Proofs.Ythkhlcigegbpfaa
set_option linter.unusedVariables false
set_option linter.unusedSimpArgs false
open Go.ChangeShapes Go.WideShapes Go.ChangeAt Go.RowKit Go.Deep

def is3B (f : Fr) : Bool := decide (f.id < (if f.ext = true then 536870912 else 2048)) && decide (f.data.size ≤ 8) && (!f.rtr || decide (f.data.size = 0))
theorem loop_ne (s : ByteArray) : ∀ (n i : Nat) (r : List UInt8), s.size - i = n → r ≠ [] → ByteArray.toList.loop s i r ≠ [] := by
  intro n
  induction n with
  | zero => intro i r h hr; unfold ByteArray.toList.loop; rw [if_neg (by omega)]; simpa using hr
  | succ n ih => intro i r h hr; unfold ByteArray.toList.loop; rw [if_pos (by omega)]; exact ih _ _ (by omega) (by simp)
theorem list_empty (s : ByteArray) : s.toList.isEmpty = decide (s.size = 0) := by
  unfold ByteArray.toList
  by_cases h : s.size = 0
  · unfold ByteArray.toList.loop
    rw [if_neg (by omega)]
    simp [h]
  · have h1 : ByteArray.toList.loop s 0 [] ≠ [] := by
      unfold ByteArray.toList.loop
      rw [if_pos (by omega)]
      exact loop_ne s _ _ _ rfl (by simp)
    have h2 : (ByteArray.toList.loop s 0 []).isEmpty = false := by
      cases hl : ByteArray.toList.loop s 0 [] with
      | nil => exact absurd hl h1
      | cons a t => rfl
    rw [h2]
    simp [h]
theorem not_empty {s : ByteArray} (h : ¬ s.size = 0) : ¬ s = ByteArray.empty := by
  rintro rfl
  exact h rfl
set_option maxRecDepth 100000 in
theorem r3_is {w : World} (f : Fr) (hd : f.data.size ≤ maxLen) : Calls Try.prog 51 #[frV f] w fun e w' => e = .returned (.bool (is3B f)) ∧ Below w.heap.size w w' := by
  have hO := (Own.nil_ (Below.refl w.heap.size w) (Nat.le_refl _)).alloc (boxF f)
  obtain ⟨g0, g1, g2, g3⟩ := boxF_c hO.get0
  have hl := lt_of_heap hO.get0
  unfold boxF at g0 g1 g2 g3 hl
  unfold maxLen at hd
  obtain ⟨fe, fi, fr, fd⟩ := f
  have HO := Lib.hid hO.bel
  clear hO
  unfold frV
  simp only at g0 g1 g2 g3 hd ⊢
  have hq1 := list_empty fd
  have hq2 := @not_empty fd
  by_cases hsz : fd.size ≤ 8
  · have hszi : (fd.size : Int) ≤ 8 := by omega
    by_cases h0 : fd.size = 0
    all_goals (cases fe <;> cases fr)
    all_goals
      go_enter Try.func51, Try.ntmps51
      go_wp2
      all_goals first
        | (go_ret; exact ⟨by simp [is3B, *], HO.out⟩)
        | (go_ret; exact ⟨ret_bool (by rw [Bool.eq_iff_iff]; simp [is3B, *]), HO.out⟩)
        | trace_state
  · have hszi : (8 : Int) < (fd.size : Int) := by omega
    cases fe <;> cases fr
    all_goals
      go_enter Try.func51, Try.ntmps51
      go_wp2
      all_goals first
        | (exfalso; omega)
        | (go_ret; exact ⟨by simp [is3B, *], HO.out⟩)
        | (go_ret; exact ⟨ret_bool (by rw [Bool.eq_iff_iff]; simp [is3B, *]), HO.out⟩)
        | trace_state
theorem isB_ref {m : Mat} (h : isB m = true) : m.ref < 2048 ∧ m.ref % 8 = 0 ∧ m.masters.length ≤ 4 ∧ 1 ≤ m.level ∧ m.level ≤ 2 ∧ m.cycles ≤ 8 := by
  simp only [isB, headB, wi, pw, Bool.and_eq_true, Bool.or_eq_true, decide_eq_true_eq, beq_iff_eq] at h
  obtain ⟨⟨⟨⟨⟨⟨⟨⟨⟨⟨⟨⟨⟨⟨a1, a2⟩, _⟩, b1⟩, _⟩, _⟩, _⟩, _⟩, c1⟩, c2⟩, d1⟩, _⟩, _⟩, _⟩, _⟩ := h
  omega
theorem parse_ok {m : Mat} {f : Fr} {b : Bt} (h0 : 0 ≤ m.ref) (h : parseE m f = (b, true)) : f.ext = false ∧ f.rtr = false ∧ f.id < 2048 ∧ f.data.size ≤ 8 := by
  unfold parseE at h
  split at h
  · cases h
  · split at h
    · rename_i h1 h2
      obtain ⟨h2, h3⟩ := h2
      have hb := h2
      rw [build_snd] at hb
      unfold buildE at h3
      rw [if_pos hb] at h3
      simp only [frEqB, Bool.and_eq_true] at h3
      obtain ⟨⟨⟨e1, e2⟩, e3⟩, e4⟩ := h3
      rw [buildOk, Bool.and_eq_true] at hb
      obtain ⟨hb1, hb2⟩ := hb
      have hb3 := of_decide_eq_true hb2
      obtain ⟨q1, q2, q3, _⟩ := isB_ref hb1
      have e2' : (m.ref + (beatP m f).rank) % 4294967296 = f.id := by simpa using e2
      have e5 := of_decide_eq_true e4
      refine ⟨by simpa using e1, by simpa using e3, ?_, ?_⟩
      · omega
      · rw [← e5, strOfNums_size]
        unfold beatD
        split <;> simp
    · cases h
end Go.Proofs.Ythkhlcigegbpfaa
