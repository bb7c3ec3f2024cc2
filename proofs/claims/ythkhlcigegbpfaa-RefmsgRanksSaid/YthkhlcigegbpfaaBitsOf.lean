/- Rows of bits: bits.Of of eleven bits. -/
import Derived.Test.YthkhlcigegbpfaaRmPure
import Derived.Test.YthkhlcigegbpfaaRmsg
import Derived.Test.YthkhlcigegbpfaaMatCopy
import Derived.Laws.BitsAllLaws
namespace Go.Proofs.Ythkhlcigegbpfaa
set_option linter.unusedVariables false
set_option linter.unusedSimpArgs false
open Go.ChangeShapes Go.WideShapes Go.ChangeAt Go.RowKit Go.Deep

theorem bits_sign (b : Bool) (w : World) : Calls Try.prog 97 #[.bool b] w fun e w' => e = .returned (.int .u8 (if b = true then 49 else 48)) ∧ w' = w := by
  cases b
  all_goals
    go_enter Try.func97, Try.ntmps97
    go_wp2
    go_ret
    exact ⟨rfl, rfl⟩
def bitI (n i : Nat) : Int := if n / 2 ^ i % 2 = 1 then 49 else 48
def rowK (n k : Nat) : List Int := (List.range 11).map fun j => if 10 - j < k then bitI n (10 - j) else 0
def bit11 (n : Nat) : List Int := (List.range 11).map fun j => bitI n (10 - j)
theorem set_rowI {α : Type} {n j : Nat} {p q : Nat → α} {v : α} (hj : q j = v) (ho : ∀ i, i < n → i ≠ j → q i = p i) : (((List.range n).map p).toArray.setIfInBounds j v) = ((List.range n).map q).toArray := by
  apply Array.ext
  · simp
  · intro i h1 h2
    have hin : i < n := by simpa using h2
    rw [Array.getElem_setIfInBounds (by simpa using hin)]
    by_cases e : j = i
    · subst e
      simp [hj]
    · rw [if_neg e]
      have := ho i hin (fun e' => e e'.symm)
      simp [this]
theorem and_one {n : Nat} (hn : n < 2048) (k : Nat) : (bits BinOp.and IntKind.u64 ((n : Int) / 2 ^ k) 1 == 1) = decide (n / 2 ^ k % 2 = 1) := by
  have e : ((n : Int) / 2 ^ k) = ((n / 2 ^ k : Nat) : Int) := by
    rw [Int.natCast_ediv, Int.natCast_pow]
    rfl
  have hlt : n / 2 ^ k ≤ n := Nat.div_le_self _ _
  have h := u64_and_nat (n / 2 ^ k) 1 (by omega) (by omega)
  rw [e, show (1 : Int) = ((1 : Nat) : Int) from rfl, h, Nat.and_one_is_mod, Bool.eq_iff_iff]
  simp
  omega
def rowO (n k : Nat) : Obj := .cells ((rowK n k).map (Value.int .u8)).toArray 5 (0, 0)
set_option maxRecDepth 100000 in
set_option maxHeartbeats 4000000 in
theorem bits_of11 (n : Nat) (hn : n < 2048) (w : World) : Calls Try.prog 93 #[.int .u64 n, .int .i64 11] w fun e w' => e = .returned (.string (strOfNums (bit11 n))) ∧ Below w.heap.size w w' := by
  obtain ⟨i0, hi0, hi1, hi2, hi3⟩ := info_parts byte_info
  have hmk := fun w : World => run_make_rowN (P := Try.prog) 69 5 i0 _ Try.underlying69 hi0 hi1 .i64 .i64 11 11 (Nat.le_refl _) (by rw [hi3]; omega) (by omega) w
  have hmk2 : ∀ w : World, (Instr.makeSlice 69 (.int .i64 11) (.int .i64 11)).run Try.prog w = .ok (.slice (some ⟨w.heap.size, 0, none⟩) 11 11) (w.alloc (rowO n 0)) := by
    intro w
    have h := hmk w
    rw [hi2] at h
    have e : madeCells (Value.int .u8 0).cells (11 * 1) = ((rowK n 0).map (Value.int .u8)).toArray := by
      apply Array.ext
      · simp [madeCells, rowK]
      · intro i h1 h2
        simp [madeCells, rowK, Value.cells, Nat.mod_one]
    rw [e] at h
    exact h
  clear hmk
  go_enter Try.func93, Try.ntmps93
  go_wp2_with fail
  go_loopw [13] (fun vi wr => ∃ k : Nat, vi = .int .i64 k ∧ k ≤ 11 ∧ wr.heap[w.heap.size]? = some (rowO n k) ∧ Below w.heap.size w wr ∧ w.heap.size + 1 ≤ wr.heap.size) (fun i _ => 11 - (intOf i).toNat)
  case atStart => exact ⟨0, rfl, by omega, new_blk _ _, (Below.refl _ _).alloc (Nat.le_refl _) _, by simp⟩
  case round =>
    obtain ⟨k, rfl, hk, hb, hB, hsz⟩ := hrel
    by_cases hlt : k < 11
    · have hlt' : (k : Int) < 11 := by omega
      obtain ⟨j, hj, hj0, hjk⟩ : ∃ j : Nat, (10 : Int) - k = (j : Int) ∧ j < 11 ∧ k = 10 - j := ⟨10 - k, by omega, by omega, by omega⟩
      have hf := free_of hb j
      have hc : wr.cell? ⟨w.heap.size, j, none⟩ = some (.int .u8 0) := by
        rw [cell_of hb]
        have h0 : ¬ 10 - j < k := by omega
        simp [rowK, hj0, h0]
      have hl := lt_of_heap hb
      have hji : (j : Int) < 11 := by omega
      have HB := Lib.hid hb
      have HJ := Lib.hid hj
      have HJK := Lib.hid hjk
      clear hb hj hjk
      go_wp2_with fail
      refine (bits_sign _ _).mono ?_
      rintro e w' ⟨rfl, rfl⟩
      rw [and_one hn, HJ.out]
      go_wp2_with fail
      have hu := (Upd.setCell j (.int .u8 (bitI n k)) (Upd.refl HB.out)).of_eq (show _ = rowO n (k + 1) by
        unfold rowO rowK
        simp only [List.map_map]
        rw [set_rowI (q := (Value.int .u8 ∘ fun j => if 10 - j < k + 1 then bitI n (10 - j) else 0)) ?_ ?_]
        · have hk' := HJK.out
          simp only [Function.comp]
          rw [if_pos (by omega), hk']
        · intro i hi hne
          have hk' := HJK.out
          simp only [Function.comp]
          by_cases h1 : 10 - i < k
          · rw [if_pos h1, if_pos (by omega)]
          · rw [if_neg h1, if_neg (by omega)])
      exact ⟨⟨k + 1, by go_num, by omega, hu.blk, hu.below hB (Nat.le_refl _) (by omega), Nat.le_trans hsz hu.size⟩, by (simp [intOf]; try omega)⟩
    · have hke : k = 11 := by omega
      subst hke
      have hcv := conv_row (w := wr) (n := 11) (cp := 11) (xs := bit11 n) hb (by simp [bit11]) (by
        simp only [rowK, bit11]
        rw [List.take_of_length_le (by simp)]
        simp only [List.map_map]
        apply List.map_congr_left
        intro i hi
        simp only [Function.comp]
        rw [if_pos (by omega)])
      go_wp2
      go_ret
      exact ⟨rfl, hB⟩
end Go.Proofs.Ythkhlcigegbpfaa
