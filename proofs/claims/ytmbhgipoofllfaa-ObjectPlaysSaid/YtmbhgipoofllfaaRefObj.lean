/- The reference's messages (ostinatoref18.Objects): its blocks; each function's contract. -/
import Derived.Test.YtmbhgipoofllfaaObjCopy
namespace Go.Proofs.Ytmbhgipoofllfaa
set_option linter.unusedVariables false
set_option linter.unusedSimpArgs false
open Go.ChangeShapes Go.WideShapes Go.ChangeAt Go.RowKit Go.Deep

structure RD where
  r : Nat
  bo : Nat
  bh : Nat
  bc : Nat
  bg : Nat
  bq : Nat
def strR (n : Nat) (f : Int → Option ByteArray) : List Value := (List.range n).map fun i : Nat => .string ((f i).getD ⟨#[]⟩)
def booR (n : Nat) (f : Int → Option ByteArray) : List Value := (List.range n).map fun i : Nat => .bool (f i).isSome
def strO (n : Nat) (f : Int → Option ByteArray) : Obj := .cells (strR n f).toArray 9 (0, 0)
def booO (n : Nat) (f : Int → Option ByteArray) : Obj := .cells (booR n f).toArray 4 (0, 0)
def robO (m : Mat) (s1 s2 s3 : Value) (who : Int) (n : Nat) (x : RD) : Obj :=
  .cells #[.int .i64 m.level, .int .i64 m.nodes, .int .i64 m.cycles, .int .i64 m.length, .int .i64 m.enable, .int .i64 m.unit, .int .i64 m.init, .int .u32 m.ref, s1, s2, s3, .int .i64 who,
    .slice (some ⟨x.bo, 0, none⟩) n n, .slice (some ⟨x.bh, 0, none⟩) n n, .slice (some ⟨x.bc, 0, none⟩) n n, .slice (some ⟨x.bg, 0, none⟩) n n, .pointer (some ⟨x.bq, 0, none⟩)] 82 (0, 0)
theorem rob_c {w : World} {m : Mat} {s1 s2 s3 : Value} {who : Int} {n : Nat} {x : RD} (h : w.heap[x.r]? = some (robO m s1 s2 s3 who n x)) :
    w.cell? ⟨x.r, 9, none⟩ = some s2 ∧ w.cell? ⟨x.r, 11, none⟩ = some (.int .i64 who) ∧ w.cell? ⟨x.r, 12, none⟩ = some (.slice (some ⟨x.bo, 0, none⟩) n n) ∧ w.cell? ⟨x.r, 13, none⟩ = some (.slice (some ⟨x.bh, 0, none⟩) n n) ∧
    w.cell? ⟨x.r, 14, none⟩ = some (.slice (some ⟨x.bc, 0, none⟩) n n) ∧ w.cell? ⟨x.r, 15, none⟩ = some (.slice (some ⟨x.bg, 0, none⟩) n n) ∧ w.cell? ⟨x.r, 16, none⟩ = some (.pointer (some ⟨x.bq, 0, none⟩)) :=
  ⟨cell_of h 9, cell_of h 11, cell_of h 12, cell_of h 13, cell_of h 14, cell_of h 15, cell_of h 16⟩
theorem strR_len (n : Nat) (f : Int → Option ByteArray) : (strR n f).length = n := by simp [strR]
theorem booR_len (n : Nat) (f : Int → Option ByteArray) : (booR n f).length = n := by simp [booR]
theorem strO_at {w : World} {b n j : Nat} {f : Int → Option ByteArray} (h : w.heap[b]? = some (strO n f)) (hj : j < n) : w.cell? ⟨b, j, none⟩ = some (.string ((f j).getD ⟨#[]⟩)) ∧ w.frozen? ⟨b, j, none⟩ = false ∧ b < w.heap.size :=
  ⟨(cell_of h j).trans (by simp [strR, hj]), free_of h j, lt_of_heap h⟩
theorem booO_at {w : World} {b n j : Nat} {f : Int → Option ByteArray} (h : w.heap[b]? = some (booO n f)) (hj : j < n) : w.cell? ⟨b, j, none⟩ = some (.bool (f j).isSome) ∧ w.frozen? ⟨b, j, none⟩ = false ∧ b < w.heap.size :=
  ⟨(cell_of h j).trans (by simp [booR, hj]), free_of h j, lt_of_heap h⟩
theorem set_row {α : Type} {n j : Nat} {p q : Nat → α} {v : α} (hj : q j = v) (ho : ∀ i, i ≠ j → q i = p i) : (((List.range n).map p).toArray.setIfInBounds j v) = ((List.range n).map q).toArray := by
  apply Array.ext
  · simp
  · intro i h1 h2
    have hin : i < n := by simpa using h2
    rw [Array.getElem_setIfInBounds (by simpa using hin)]
    by_cases e : j = i
    · subst e
      simp [hj]
    · rw [if_neg e]
      have := ho i (fun e' => e e'.symm)
      simp [this]
theorem strO_set {w w' : World} {b n j : Nat} {f : Int → Option ByteArray} {s : ByteArray} (u : Upd b (.cells ((strR n f).toArray.setIfInBounds j (.string s)) 9 (0, 0)) w w') : Upd b (strO n (setF f j s)) w w' :=
  u.of_eq (by unfold strO strR; rw [set_row (q := fun i : Nat => Value.string ((setF f j s i).getD ⟨#[]⟩)) (by simp [setF]) (fun i hi => by (have : ¬ ((i : Int) = (j : Int)) := by omega); simp [setF, this])])
theorem booO_set {w w' : World} {b n j : Nat} {f : Int → Option ByteArray} {s : ByteArray} (u : Upd b (.cells ((booR n f).toArray.setIfInBounds j (.bool true)) 4 (0, 0)) w w') : Upd b (booO n (setF f j s)) w w' :=
  u.of_eq (by unfold booO booR; rw [set_row (q := fun i : Nat => Value.bool (setF f j s i).isSome) (by simp [setF]) (fun i hi => by (have : ¬ ((i : Int) = (j : Int)) := by omega); simp [setF, this])])
section
variable {w : World} {m : Mat} {s1 s2 s3 : Value} {who : Int} {n : Nat} {x : RD} {f g : Int → Option ByteArray}
theorem r_there (h : w.heap[x.r]? = some (robO m s1 s2 s3 who n x)) (k : Int) {z : Bool} (hz : decide (0 ≤ k ∧ k < (n : Int)) = z) :
    Calls Try.prog 44 #[.pointer (some ⟨x.r, 0, none⟩), .int .i64 k] w fun e w' => e = .returned (.bool z) ∧ w' = w := by
  obtain ⟨c9, c11, c12, c13, c14, c15, c16⟩ := rob_c h
  have hl := lt_of_heap h
  subst hz
  by_cases h1 : 0 ≤ k
  · by_cases h2 : k < (n : Int)
    · have HF := Lib.hid (show decide (0 ≤ k ∧ k < (n : Int)) = true by simp [h1, h2])
      rw [HF.out]
      go_enter Try.func44, Try.ntmps44
      go_wp2
      go_ret
      exact ⟨rfl, rfl⟩
    · have HF := Lib.hid (show decide (0 ≤ k ∧ k < (n : Int)) = false by simp [h2])
      rw [HF.out]
      have h3 : (n : Int) ≤ k := by omega
      go_enter Try.func44, Try.ntmps44
      go_wp2
      all_goals try (exfalso; omega)
      go_ret
      exact ⟨rfl, rfl⟩
  · have HF := Lib.hid (show decide (0 ≤ k ∧ k < (n : Int)) = false by simp [h1])
    rw [HF.out]
    have h3 : k < 0 := by omega
    go_enter Try.func44, Try.ntmps44
    go_wp2
    all_goals try (exfalso; omega)
    go_ret
    exact ⟨rfl, rfl⟩
theorem r_state (h : w.heap[x.r]? = some (robO m s1 s2 s3 who n x)) (hs : w.heap[x.bo]? = some (strO n f)) (hh : w.heap[x.bh]? = some (booO n f)) (hf : ∀ k : Int, ¬ (0 ≤ k ∧ k < (n : Int)) → f k = none) (k : Int) {y : ByteArray} {z : Bool} (hy : (f k).getD ⟨#[]⟩ = y) (hz : (f k).isSome = z) :
    Calls Try.prog 39 #[.pointer (some ⟨x.r, 0, none⟩), .int .i64 k] w fun e w' => e = .returned (.tuple #[.string y, .bool z]) ∧ w' = w := by
  obtain ⟨c9, c11, c12, c13, c14, c15, c16⟩ := rob_c h
  have hl := lt_of_heap h
  by_cases h1 : 0 ≤ k ∧ k < (n : Int)
  · obtain ⟨j, rfl⟩ := Int.eq_ofNat_of_zero_le h1.1
    have hjn : (j : Int) < n := h1.2
    obtain ⟨a0, a1, a2⟩ := strO_at hs (j := j) (by omega)
    obtain ⟨b0, b1, b2⟩ := booO_at hh (j := j) (by omega)
    rw [hy] at a0
    rw [hz] at b0
    have HT := Lib.hid (r_there h (j : Int) (z := true) (by simp; omega))
    have HZ := Lib.hid (show z = false → y = ⟨#[]⟩ by
      intro e
      subst e
      cases hfj : f j with
      | none => rw [hfj] at hy; exact hy.symm
      | some s => rw [hfj] at hz; simp at hz)
    clear hy hz h hs hh hf
    go_enter Try.func39, Try.ntmps39
    go_wp2_with fail
    refine HT.out.mono ?_
    rintro e w' ⟨rfl, rfl⟩
    cases z
    · obtain rfl := HZ.out rfl
      go_wp2
      go_ret2
      exact ⟨rfl, rfl⟩
    · go_wp2
      go_ret2
      exact ⟨rfl, rfl⟩
  · have hn := hf k h1
    rw [hn] at hy hz
    subst hy hz
    have HT := Lib.hid (r_there h k (z := false) (by simpa using h1))
    clear h hs hh hf
    go_enter Try.func39, Try.ntmps39
    go_wp2_with fail
    refine HT.out.mono ?_
    rintro e w' ⟨rfl, rfl⟩
    go_wp2
    go_ret2
    exact ⟨rfl, rfl⟩
theorem r_read (h : w.heap[x.r]? = some (robO m s1 s2 s3 who n x)) (hs : w.heap[x.bc]? = some (strO n f)) (hh : w.heap[x.bg]? = some (booO n f)) (hf : ∀ k : Int, ¬ (0 ≤ k ∧ k < (n : Int)) → f k = none) (k : Int) {y : ByteArray} {z : Bool} (hy : (f k).getD ⟨#[]⟩ = y) (hz : (f k).isSome = z) :
    Calls Try.prog 40 #[.pointer (some ⟨x.r, 0, none⟩), .int .i64 k] w fun e w' => e = .returned (.tuple #[.string y, .bool z]) ∧ w' = w := by
  obtain ⟨c9, c11, c12, c13, c14, c15, c16⟩ := rob_c h
  have hl := lt_of_heap h
  by_cases h1 : 0 ≤ k ∧ k < (n : Int)
  · obtain ⟨j, rfl⟩ := Int.eq_ofNat_of_zero_le h1.1
    have hjn : (j : Int) < n := h1.2
    obtain ⟨a0, a1, a2⟩ := strO_at hs (j := j) (by omega)
    obtain ⟨b0, b1, b2⟩ := booO_at hh (j := j) (by omega)
    rw [hy] at a0
    rw [hz] at b0
    have HT := Lib.hid (r_there h (j : Int) (z := true) (by simp; omega))
    have HZ := Lib.hid (show z = false → y = ⟨#[]⟩ by
      intro e
      subst e
      cases hfj : f j with
      | none => rw [hfj] at hy; exact hy.symm
      | some s => rw [hfj] at hz; simp at hz)
    clear hy hz h hs hh hf
    go_enter Try.func40, Try.ntmps40
    go_wp2_with fail
    refine HT.out.mono ?_
    rintro e w' ⟨rfl, rfl⟩
    cases z
    · obtain rfl := HZ.out rfl
      go_wp2
      go_ret2
      exact ⟨rfl, rfl⟩
    · go_wp2
      go_ret2
      exact ⟨rfl, rfl⟩
  · have hn := hf k h1
    rw [hn] at hy hz
    subst hy hz
    have HT := Lib.hid (r_there h k (z := false) (by simpa using h1))
    clear h hs hh hf
    go_enter Try.func40, Try.ntmps40
    go_wp2_with fail
    refine HT.out.mono ?_
    rintro e w' ⟨rfl, rfl⟩
    go_wp2
    go_ret2
    exact ⟨rfl, rfl⟩
end
end Go.Proofs.Ytmbhgipoofllfaa
