/- MatrixBounds: each field at its bounds, and one beyond. No conditions. -/
import Derived.Test.YthkhlcigegbpfaaMatKnown
namespace Go.Proofs.Ythkhlcigegbpfaa
set_option linter.unusedVariables false
set_option linter.unusedSimpArgs false
open Go.ChangeShapes Go.WideShapes Go.ChangeAt Go.RowKit Go.Deep

theorem ok_of {m : Mat} (h : decide (I64 m.level ∧ I64 m.nodes ∧ I64 m.cycles ∧ I64 m.length ∧ I64 m.enable ∧ I64 m.unit ∧ I64 m.init ∧ U32 m.ref) = true) (h1 : ∀ x ∈ m.masters, I64 x) (h2 : ∀ x ∈ m.msgs, x.Ok) (h3 : ∀ x ∈ m.wins, x.Ok) : m.Ok := by
  obtain ⟨a, b, c, d, e, f, g, i⟩ := of_decide_eq_true h
  exact ⟨a, b, c, d, e, f, g, i, h1, h2, h3⟩
theorem one_master : ∀ x ∈ ([0] : List Int), I64 x := by intro x hx; simp at hx; subst hx; decide
theorem one_msg : ∀ x ∈ ([⟨9, 1, false⟩] : List Msg), x.Ok := by intro x hx; simp at hx; subst hx; exact ⟨by decide, by decide⟩
theorem no_win : ∀ x ∈ ([] : List Win), x.Ok := by intro x hx; simp at hx
theorem fin1 {w0 w1 w2 : World} {o : Obj} (h0 : Below w0.heap.size w0 w1) (h2 : Below (w1.alloc o).heap.size (w1.alloc o) w2) : Below w0.heap.size w0 w2 :=
  h0.trans ((((Below.refl _ _).alloc (Nat.le_refl _) o).trans (h2.mono (by simp))).mono h0.size)
theorem fin2 {w0 w1 w2 : World} {o o' : Obj} (h0 : Below w0.heap.size w0 w1) (h2 : Below ((w1.alloc o).alloc o').heap.size ((w1.alloc o).alloc o') w2) : Below w0.heap.size w0 w2 :=
  h0.trans (((((Below.refl _ _).alloc (Nat.le_refl _) o).alloc (by simp) o').trans (h2.mono (by simp; omega))).mono h0.size)
set_option maxRecDepth 100000 in
set_option maxHeartbeats 8000000 in
theorem MatrixBounds_walk (a0 : Int) (a1 : Bool) (v0 : (Lit.int .u8 a0).wf = true) (w : World) : Holds 9 #[.int .u8 a0, .bool a1] w := by
  have b0 := u8_bounds v0
  clear v0
  unfold Holds
  go_enter Try.func9, Try.ntmps9
  go_wp2_with fail
  refine (known12 _).mono ?_
  rintro e w0 ⟨rfl, hb⟩
  go_wp2_with fail
  refine (least_any _).mono ?_
  rintro e w1 ⟨a1', n1, c1, a2, n2, c2, rfl, hB0, hN⟩
  have RM := Lib.hid (hN.rd ⟨by decide, by decide, by decide⟩ leastM_ok)
  clear hN
  have HBW := Lib.hid (hb.trans (hB0.mono hb.size))
  clear hb hB0
  have hmk4 : ∀ w : World, (Instr.makeSlice 23 (.int .i64 4) (.int .i64 4)).run Try.prog w = .ok (.slice (some ⟨w.heap.size, 0, none⟩) 4 4) (w.alloc (.cells ((List.replicate 4 (0 : Int)).flatMap intC).toArray 3 (0, 0))) := fun _ => by kernel_rfl
  have hmk5 : ∀ w : World, (Instr.makeSlice 23 (.int .i64 5) (.int .i64 5)).run Try.prog w = .ok (.slice (some ⟨w.heap.size, 0, none⟩) 5 5) (w.alloc (.cells ((List.replicate 5 (0 : Int)).flatMap intC).toArray 3 (0, 0))) := fun _ => by kernel_rfl
  have hmk12 : ∀ w : World, (Instr.makeSlice 24 (.int .i64 12) (.int .i64 12)).run Try.prog w = .ok (.slice (some ⟨w.heap.size, 0, none⟩) 12 12) (w.alloc (.cells ((List.replicate 12 (⟨0, 0, false⟩ : Msg)).flatMap msgC).toArray 53 (0, 0))) := fun _ => by kernel_rfl
  have hmk13 : ∀ w : World, (Instr.makeSlice 24 (.int .i64 13) (.int .i64 13)).run Try.prog w = .ok (.slice (some ⟨w.heap.size, 0, none⟩) 13 13) (w.alloc (.cells ((List.replicate 13 (⟨0, 0, false⟩ : Msg)).flatMap msgC).toArray 53 (0, 0))) := fun _ => by kernel_rfl
  simp only [matV, leastM]
  cases a1
  · rcases (show a0 % 12 = 0 ∨ a0 % 12 = 1 ∨ a0 % 12 = 2 ∨ a0 % 12 = 3 ∨ a0 % 12 = 4 ∨ a0 % 12 = 5 ∨ a0 % 12 = 6 ∨ a0 % 12 = 7 ∨ a0 % 12 = 8 ∨ a0 % 12 = 9 ∨ a0 % 12 = 10 ∨ a0 % 12 = 11 by omega) with h | h | h | h | h | h | h | h | h | h | h | h
    · go_wp2_with fail
      refine (mat_is (m := ⟨2, 2, 8, 200, 1, 16, 0, 0, [0], [⟨9, 1, false⟩], []⟩) ⟨ok_of (by decide) one_master one_msg no_win, RM.out.r1.keep ((Below.refl _ _).alloc (Nat.le_refl _) _), RM.out.r2.keep ((Below.refl _ _).alloc (Nat.le_refl _) _), RM.out.r3.keep ((Below.refl _ _).alloc (Nat.le_refl _) _)⟩).mono ?_
      rintro e w2 ⟨rfl, hB2⟩
      rw [show isB ⟨2, 2, 8, 200, 1, 16, 0, 0, [0], [⟨9, 1, false⟩], []⟩ = true by decide]
      go_wp2
      go_ret
      exact ⟨rfl, fin1 HBW.out hB2⟩
    · go_wp2_with fail
      refine (mat_is (m := ⟨1, 8, 8, 200, 1, 16, 0, 0, [0], [⟨9, 1, false⟩], []⟩) ⟨ok_of (by decide) one_master one_msg no_win, RM.out.r1.keep ((Below.refl _ _).alloc (Nat.le_refl _) _), RM.out.r2.keep ((Below.refl _ _).alloc (Nat.le_refl _) _), RM.out.r3.keep ((Below.refl _ _).alloc (Nat.le_refl _) _)⟩).mono ?_
      rintro e w2 ⟨rfl, hB2⟩
      rw [show isB ⟨1, 8, 8, 200, 1, 16, 0, 0, [0], [⟨9, 1, false⟩], []⟩ = true by decide]
      go_wp2
      go_ret
      exact ⟨rfl, fin1 HBW.out hB2⟩
    · go_wp2_with fail
      refine (mat_is (m := ⟨1, 2, 8, 200, 1, 16, 0, 0, [0], [⟨9, 1, false⟩], []⟩) ⟨ok_of (by decide) one_master one_msg no_win, RM.out.r1.keep ((Below.refl _ _).alloc (Nat.le_refl _) _), RM.out.r2.keep ((Below.refl _ _).alloc (Nat.le_refl _) _), RM.out.r3.keep ((Below.refl _ _).alloc (Nat.le_refl _) _)⟩).mono ?_
      rintro e w2 ⟨rfl, hB2⟩
      rw [show isB ⟨1, 2, 8, 200, 1, 16, 0, 0, [0], [⟨9, 1, false⟩], []⟩ = true by decide]
      go_wp2
      go_ret
      exact ⟨rfl, fin1 HBW.out hB2⟩
    · go_wp2_with fail
      refine (mat_is (m := ⟨1, 2, 8, 4000, 1, 16, 0, 0, [0], [⟨9, 1, false⟩], []⟩) ⟨ok_of (by decide) one_master one_msg no_win, RM.out.r1.keep ((Below.refl _ _).alloc (Nat.le_refl _) _), RM.out.r2.keep ((Below.refl _ _).alloc (Nat.le_refl _) _), RM.out.r3.keep ((Below.refl _ _).alloc (Nat.le_refl _) _)⟩).mono ?_
      rintro e w2 ⟨rfl, hB2⟩
      rw [show isB ⟨1, 2, 8, 4000, 1, 16, 0, 0, [0], [⟨9, 1, false⟩], []⟩ = true by decide]
      go_wp2
      go_ret
      exact ⟨rfl, fin1 HBW.out hB2⟩
    · go_wp2_with fail
      refine (mat_is (m := ⟨1, 2, 8, 200, 16, 16, 0, 0, [0], [⟨9, 1, false⟩], []⟩) ⟨ok_of (by decide) one_master one_msg no_win, RM.out.r1.keep ((Below.refl _ _).alloc (Nat.le_refl _) _), RM.out.r2.keep ((Below.refl _ _).alloc (Nat.le_refl _) _), RM.out.r3.keep ((Below.refl _ _).alloc (Nat.le_refl _) _)⟩).mono ?_
      rintro e w2 ⟨rfl, hB2⟩
      rw [show isB ⟨1, 2, 8, 200, 16, 16, 0, 0, [0], [⟨9, 1, false⟩], []⟩ = true by decide]
      go_wp2
      go_ret
      exact ⟨rfl, fin1 HBW.out hB2⟩
    · go_wp2_with fail
      refine (mat_is (m := ⟨1, 2, 8, 200, 1, 64, 0, 0, [0], [⟨9, 1, false⟩], []⟩) ⟨ok_of (by decide) one_master one_msg no_win, RM.out.r1.keep ((Below.refl _ _).alloc (Nat.le_refl _) _), RM.out.r2.keep ((Below.refl _ _).alloc (Nat.le_refl _) _), RM.out.r3.keep ((Below.refl _ _).alloc (Nat.le_refl _) _)⟩).mono ?_
      rintro e w2 ⟨rfl, hB2⟩
      rw [show isB ⟨1, 2, 8, 200, 1, 64, 0, 0, [0], [⟨9, 1, false⟩], []⟩ = true by decide]
      go_wp2
      go_ret
      exact ⟨rfl, fin1 HBW.out hB2⟩
    · go_wp2_with fail
      refine (mat_is (m := ⟨1, 2, 8, 200, 1, 16, 8000, 0, [0], [⟨9, 1, false⟩], []⟩) ⟨ok_of (by decide) one_master one_msg no_win, RM.out.r1.keep ((Below.refl _ _).alloc (Nat.le_refl _) _), RM.out.r2.keep ((Below.refl _ _).alloc (Nat.le_refl _) _), RM.out.r3.keep ((Below.refl _ _).alloc (Nat.le_refl _) _)⟩).mono ?_
      rintro e w2 ⟨rfl, hB2⟩
      rw [show isB ⟨1, 2, 8, 200, 1, 16, 8000, 0, [0], [⟨9, 1, false⟩], []⟩ = true by decide]
      go_wp2
      go_ret
      exact ⟨rfl, fin1 HBW.out hB2⟩
    · go_wp2_with fail
      refine (mat_is (m := ⟨1, 2, 8, 200, 1, 16, 0, 2040, [0], [⟨9, 1, false⟩], []⟩) ⟨ok_of (by decide) one_master one_msg no_win, RM.out.r1.keep ((Below.refl _ _).alloc (Nat.le_refl _) _), RM.out.r2.keep ((Below.refl _ _).alloc (Nat.le_refl _) _), RM.out.r3.keep ((Below.refl _ _).alloc (Nat.le_refl _) _)⟩).mono ?_
      rintro e w2 ⟨rfl, hB2⟩
      rw [show isB ⟨1, 2, 8, 200, 1, 16, 0, 2040, [0], [⟨9, 1, false⟩], []⟩ = true by decide]
      go_wp2
      go_ret
      exact ⟨rfl, fin1 HBW.out hB2⟩
    · go_wp2_with fail
      refine (mat_is (m := ⟨1, 2, 8, 200, 1, 16, 0, 0, List.replicate 4 0, [⟨9, 1, false⟩], []⟩) ⟨ok_of (by decide) (by intro x hx; rw [List.eq_of_mem_replicate hx]; decide) one_msg no_win, NewL.rd (t := 3) (base := 0) intC_len (by decide) (.inr ⟨_, rfl, Nat.zero_le _, new_blk2 _ _ _⟩), RM.out.r2.keep (((Below.refl _ _).alloc (Nat.le_refl _) _).alloc (by simp) _), RM.out.r3.keep (((Below.refl _ _).alloc (Nat.le_refl _) _).alloc (by simp) _)⟩).mono ?_
      rintro e w2 ⟨rfl, hB2⟩
      rw [show isB ⟨1, 2, 8, 200, 1, 16, 0, 0, List.replicate 4 0, [⟨9, 1, false⟩], []⟩ = true by decide]
      go_wp2
      go_ret
      exact ⟨rfl, fin2 HBW.out hB2⟩
    · go_wp2_with fail
      refine (mat_is (m := ⟨1, 2, 8, 200, 1, 16, 0, 0, [0], List.replicate 12 ⟨0, 0, false⟩, []⟩) ⟨ok_of (by decide) one_master (by intro x hx; rw [List.eq_of_mem_replicate hx]; exact ⟨by decide, by decide⟩) no_win, RM.out.r1.keep (((Below.refl _ _).alloc (Nat.le_refl _) _).alloc (by simp) _), NewL.rd (t := 53) (base := 0) msgC_len (by decide) (.inr ⟨_, rfl, Nat.zero_le _, new_blk2 _ _ _⟩), RM.out.r3.keep (((Below.refl _ _).alloc (Nat.le_refl _) _).alloc (by simp) _)⟩).mono ?_
      rintro e w2 ⟨rfl, hB2⟩
      rw [show isB ⟨1, 2, 8, 200, 1, 16, 0, 0, [0], List.replicate 12 ⟨0, 0, false⟩, []⟩ = true by decide]
      go_wp2
      go_ret
      exact ⟨rfl, fin2 HBW.out hB2⟩
    · go_wp2_with fail
      refine (mat_is (m := ⟨1, 2, 8, 200, 1, 16, 0, 0, [0], [⟨9, 1, false⟩], [⟨3, 0, 200, 7, 8, 0⟩]⟩) ⟨ok_of (by decide) one_master one_msg (by intro x hx; simp at hx; subst hx; exact ⟨by decide, by decide, by decide, by decide, by decide, by decide⟩), RM.out.r1.keep (((Below.refl _ _).alloc (Nat.le_refl _) _).alloc (by simp) _), RM.out.r2.keep (((Below.refl _ _).alloc (Nat.le_refl _) _).alloc (by simp) _), NewL.rd (t := 56) (base := 0) winC_len (by decide) (.inr ⟨_, rfl, Nat.zero_le _, new_blk2 _ _ _⟩)⟩).mono ?_
      rintro e w2 ⟨rfl, hB2⟩
      rw [show isB ⟨1, 2, 8, 200, 1, 16, 0, 0, [0], [⟨9, 1, false⟩], [⟨3, 0, 200, 7, 8, 0⟩]⟩ = true by decide]
      go_wp2
      go_ret
      exact ⟨rfl, fin2 HBW.out hB2⟩
    · go_wp2_with fail
      refine (mat_is (m := ⟨1, 2, 8, 200, 1, 16, 0, 0, [0], [⟨9, 1, false⟩], [⟨3, 5, 9, 3, 4, 0⟩]⟩) ⟨ok_of (by decide) one_master one_msg (by intro x hx; simp at hx; subst hx; exact ⟨by decide, by decide, by decide, by decide, by decide, by decide⟩), RM.out.r1.keep (((Below.refl _ _).alloc (Nat.le_refl _) _).alloc (by simp) _), RM.out.r2.keep (((Below.refl _ _).alloc (Nat.le_refl _) _).alloc (by simp) _), NewL.rd (t := 56) (base := 0) winC_len (by decide) (.inr ⟨_, rfl, Nat.zero_le _, new_blk2 _ _ _⟩)⟩).mono ?_
      rintro e w2 ⟨rfl, hB2⟩
      rw [show isB ⟨1, 2, 8, 200, 1, 16, 0, 0, [0], [⟨9, 1, false⟩], [⟨3, 5, 9, 3, 4, 0⟩]⟩ = true by decide]
      go_wp2
      go_ret
      exact ⟨rfl, fin2 HBW.out hB2⟩
  · rcases (show a0 % 12 = 0 ∨ a0 % 12 = 1 ∨ a0 % 12 = 2 ∨ a0 % 12 = 3 ∨ a0 % 12 = 4 ∨ a0 % 12 = 5 ∨ a0 % 12 = 6 ∨ a0 % 12 = 7 ∨ a0 % 12 = 8 ∨ a0 % 12 = 9 ∨ a0 % 12 = 10 ∨ a0 % 12 = 11 by omega) with h | h | h | h | h | h | h | h | h | h | h | h
    · go_wp2_with fail
      refine (mat_is (m := ⟨3, 2, 8, 200, 1, 16, 0, 0, [0], [⟨9, 1, false⟩], []⟩) ⟨ok_of (by decide) one_master one_msg no_win, RM.out.r1.keep ((Below.refl _ _).alloc (Nat.le_refl _) _), RM.out.r2.keep ((Below.refl _ _).alloc (Nat.le_refl _) _), RM.out.r3.keep ((Below.refl _ _).alloc (Nat.le_refl _) _)⟩).mono ?_
      rintro e w2 ⟨rfl, hB2⟩
      rw [show isB ⟨3, 2, 8, 200, 1, 16, 0, 0, [0], [⟨9, 1, false⟩], []⟩ = false by decide]
      go_wp2
      go_ret
      exact ⟨rfl, fin1 HBW.out hB2⟩
    · go_wp2_with fail
      refine (mat_is (m := ⟨1, 9, 8, 200, 1, 16, 0, 0, [0], [⟨9, 1, false⟩], []⟩) ⟨ok_of (by decide) one_master one_msg no_win, RM.out.r1.keep ((Below.refl _ _).alloc (Nat.le_refl _) _), RM.out.r2.keep ((Below.refl _ _).alloc (Nat.le_refl _) _), RM.out.r3.keep ((Below.refl _ _).alloc (Nat.le_refl _) _)⟩).mono ?_
      rintro e w2 ⟨rfl, hB2⟩
      rw [show isB ⟨1, 9, 8, 200, 1, 16, 0, 0, [0], [⟨9, 1, false⟩], []⟩ = false by decide]
      go_wp2
      go_ret
      exact ⟨rfl, fin1 HBW.out hB2⟩
    · go_wp2_with fail
      refine (mat_is (m := ⟨1, 2, 9, 200, 1, 16, 0, 0, [0], [⟨9, 1, false⟩], []⟩) ⟨ok_of (by decide) one_master one_msg no_win, RM.out.r1.keep ((Below.refl _ _).alloc (Nat.le_refl _) _), RM.out.r2.keep ((Below.refl _ _).alloc (Nat.le_refl _) _), RM.out.r3.keep ((Below.refl _ _).alloc (Nat.le_refl _) _)⟩).mono ?_
      rintro e w2 ⟨rfl, hB2⟩
      rw [show isB ⟨1, 2, 9, 200, 1, 16, 0, 0, [0], [⟨9, 1, false⟩], []⟩ = false by decide]
      go_wp2
      go_ret
      exact ⟨rfl, fin1 HBW.out hB2⟩
    · go_wp2_with fail
      refine (mat_is (m := ⟨1, 2, 8, 4001, 1, 16, 0, 0, [0], [⟨9, 1, false⟩], []⟩) ⟨ok_of (by decide) one_master one_msg no_win, RM.out.r1.keep ((Below.refl _ _).alloc (Nat.le_refl _) _), RM.out.r2.keep ((Below.refl _ _).alloc (Nat.le_refl _) _), RM.out.r3.keep ((Below.refl _ _).alloc (Nat.le_refl _) _)⟩).mono ?_
      rintro e w2 ⟨rfl, hB2⟩
      rw [show isB ⟨1, 2, 8, 4001, 1, 16, 0, 0, [0], [⟨9, 1, false⟩], []⟩ = false by decide]
      go_wp2
      go_ret
      exact ⟨rfl, fin1 HBW.out hB2⟩
    · go_wp2_with fail
      refine (mat_is (m := ⟨1, 2, 8, 200, 17, 16, 0, 0, [0], [⟨9, 1, false⟩], []⟩) ⟨ok_of (by decide) one_master one_msg no_win, RM.out.r1.keep ((Below.refl _ _).alloc (Nat.le_refl _) _), RM.out.r2.keep ((Below.refl _ _).alloc (Nat.le_refl _) _), RM.out.r3.keep ((Below.refl _ _).alloc (Nat.le_refl _) _)⟩).mono ?_
      rintro e w2 ⟨rfl, hB2⟩
      rw [show isB ⟨1, 2, 8, 200, 17, 16, 0, 0, [0], [⟨9, 1, false⟩], []⟩ = false by decide]
      go_wp2
      go_ret
      exact ⟨rfl, fin1 HBW.out hB2⟩
    · go_wp2_with fail
      refine (mat_is (m := ⟨1, 2, 8, 200, 1, 65, 0, 0, [0], [⟨9, 1, false⟩], []⟩) ⟨ok_of (by decide) one_master one_msg no_win, RM.out.r1.keep ((Below.refl _ _).alloc (Nat.le_refl _) _), RM.out.r2.keep ((Below.refl _ _).alloc (Nat.le_refl _) _), RM.out.r3.keep ((Below.refl _ _).alloc (Nat.le_refl _) _)⟩).mono ?_
      rintro e w2 ⟨rfl, hB2⟩
      rw [show isB ⟨1, 2, 8, 200, 1, 65, 0, 0, [0], [⟨9, 1, false⟩], []⟩ = false by decide]
      go_wp2
      go_ret
      exact ⟨rfl, fin1 HBW.out hB2⟩
    · go_wp2_with fail
      refine (mat_is (m := ⟨1, 2, 8, 200, 1, 16, 8001, 0, [0], [⟨9, 1, false⟩], []⟩) ⟨ok_of (by decide) one_master one_msg no_win, RM.out.r1.keep ((Below.refl _ _).alloc (Nat.le_refl _) _), RM.out.r2.keep ((Below.refl _ _).alloc (Nat.le_refl _) _), RM.out.r3.keep ((Below.refl _ _).alloc (Nat.le_refl _) _)⟩).mono ?_
      rintro e w2 ⟨rfl, hB2⟩
      rw [show isB ⟨1, 2, 8, 200, 1, 16, 8001, 0, [0], [⟨9, 1, false⟩], []⟩ = false by decide]
      go_wp2
      go_ret
      exact ⟨rfl, fin1 HBW.out hB2⟩
    · go_wp2_with fail
      refine (mat_is (m := ⟨1, 2, 8, 200, 1, 16, 0, 2048, [0], [⟨9, 1, false⟩], []⟩) ⟨ok_of (by decide) one_master one_msg no_win, RM.out.r1.keep ((Below.refl _ _).alloc (Nat.le_refl _) _), RM.out.r2.keep ((Below.refl _ _).alloc (Nat.le_refl _) _), RM.out.r3.keep ((Below.refl _ _).alloc (Nat.le_refl _) _)⟩).mono ?_
      rintro e w2 ⟨rfl, hB2⟩
      rw [show isB ⟨1, 2, 8, 200, 1, 16, 0, 2048, [0], [⟨9, 1, false⟩], []⟩ = false by decide]
      go_wp2
      go_ret
      exact ⟨rfl, fin1 HBW.out hB2⟩
    · go_wp2_with fail
      refine (mat_is (m := ⟨1, 2, 8, 200, 1, 16, 0, 0, List.replicate 5 0, [⟨9, 1, false⟩], []⟩) ⟨ok_of (by decide) (by intro x hx; rw [List.eq_of_mem_replicate hx]; decide) one_msg no_win, NewL.rd (t := 3) (base := 0) intC_len (by decide) (.inr ⟨_, rfl, Nat.zero_le _, new_blk2 _ _ _⟩), RM.out.r2.keep (((Below.refl _ _).alloc (Nat.le_refl _) _).alloc (by simp) _), RM.out.r3.keep (((Below.refl _ _).alloc (Nat.le_refl _) _).alloc (by simp) _)⟩).mono ?_
      rintro e w2 ⟨rfl, hB2⟩
      rw [show isB ⟨1, 2, 8, 200, 1, 16, 0, 0, List.replicate 5 0, [⟨9, 1, false⟩], []⟩ = false by decide]
      go_wp2
      go_ret
      exact ⟨rfl, fin2 HBW.out hB2⟩
    · go_wp2_with fail
      refine (mat_is (m := ⟨1, 2, 8, 200, 1, 16, 0, 0, [0], List.replicate 13 ⟨0, 0, false⟩, []⟩) ⟨ok_of (by decide) one_master (by intro x hx; rw [List.eq_of_mem_replicate hx]; exact ⟨by decide, by decide⟩) no_win, RM.out.r1.keep (((Below.refl _ _).alloc (Nat.le_refl _) _).alloc (by simp) _), NewL.rd (t := 53) (base := 0) msgC_len (by decide) (.inr ⟨_, rfl, Nat.zero_le _, new_blk2 _ _ _⟩), RM.out.r3.keep (((Below.refl _ _).alloc (Nat.le_refl _) _).alloc (by simp) _)⟩).mono ?_
      rintro e w2 ⟨rfl, hB2⟩
      rw [show isB ⟨1, 2, 8, 200, 1, 16, 0, 0, [0], List.replicate 13 ⟨0, 0, false⟩, []⟩ = false by decide]
      go_wp2
      go_ret
      exact ⟨rfl, fin2 HBW.out hB2⟩
    · go_wp2_with fail
      refine (mat_is (m := ⟨1, 2, 8, 200, 1, 16, 0, 0, [0], [⟨9, 1, false⟩], [⟨3, 0, 201, 7, 8, 0⟩]⟩) ⟨ok_of (by decide) one_master one_msg (by intro x hx; simp at hx; subst hx; exact ⟨by decide, by decide, by decide, by decide, by decide, by decide⟩), RM.out.r1.keep (((Below.refl _ _).alloc (Nat.le_refl _) _).alloc (by simp) _), RM.out.r2.keep (((Below.refl _ _).alloc (Nat.le_refl _) _).alloc (by simp) _), NewL.rd (t := 56) (base := 0) winC_len (by decide) (.inr ⟨_, rfl, Nat.zero_le _, new_blk2 _ _ _⟩)⟩).mono ?_
      rintro e w2 ⟨rfl, hB2⟩
      rw [show isB ⟨1, 2, 8, 200, 1, 16, 0, 0, [0], [⟨9, 1, false⟩], [⟨3, 0, 201, 7, 8, 0⟩]⟩ = false by decide]
      go_wp2
      go_ret
      exact ⟨rfl, fin2 HBW.out hB2⟩
    · go_wp2_with fail
      refine (mat_is (m := ⟨1, 2, 8, 200, 1, 16, 0, 0, [0], [⟨9, 1, false⟩], [⟨3, 5, 9, 4, 4, 0⟩]⟩) ⟨ok_of (by decide) one_master one_msg (by intro x hx; simp at hx; subst hx; exact ⟨by decide, by decide, by decide, by decide, by decide, by decide⟩), RM.out.r1.keep (((Below.refl _ _).alloc (Nat.le_refl _) _).alloc (by simp) _), RM.out.r2.keep (((Below.refl _ _).alloc (Nat.le_refl _) _).alloc (by simp) _), NewL.rd (t := 56) (base := 0) winC_len (by decide) (.inr ⟨_, rfl, Nat.zero_le _, new_blk2 _ _ _⟩)⟩).mono ?_
      rintro e w2 ⟨rfl, hB2⟩
      rw [show isB ⟨1, 2, 8, 200, 1, 16, 0, 0, [0], [⟨9, 1, false⟩], [⟨3, 5, 9, 4, 4, 0⟩]⟩ = false by decide]
      go_wp2
      go_ret
      exact ⟨rfl, fin2 HBW.out hB2⟩

set_option maxRecDepth 100000 in
theorem MatrixBounds_lifted (os : Os) (started : os.Started) (H : Type) (enc : TypeId × Value → H) :
    ReturnsInHanded {} Try.checked os 9 .any (Rows.matrixBoundsSpec.pre6 enc Try.prog Try.f9 [] false) (Rows.matrixBoundsSpec.post enc Try.prog Try.f9 false true false false) := by
  refine law_lifted (n := 2) os started H enc (by kernel_rfl) Try.func9 rfl rfl (hts_of (by kernel_rfl)) rfl (fun ds h => match ds, h with | [_, _], _ => rfl)
    (ChangeSpec.witness6 (enc := enc) (C := Try.checked) false ⟨#[], #[.int .u8 0, .bool false], []⟩ 8 (by kernel_rfl) (by kernel_rfl) (by kernel_rfl) (by kernel_rfl)) ?_
  intro W base args ds p hval hA
  rw [Try.params9] at hA hval
  obtain ⟨v0, vs0, d0, ds0, p0, q0, hargs, rfl, rfl, h0, r0⟩ := trodAll_cons hA
  obtain ⟨v1, vs1, d1, ds1, p1, q1, rfl, rfl, rfl, h1, r1⟩ := trodAll_cons r0
  obtain ⟨rfl, rfl, rfl⟩ := trodAll_nil r1
  obtain rfl : args = #[v0, v1] := by cases args; simp_all
  obtain ⟨a0, rfl, rfl, rfl, w0⟩ := open_int Try.underlying5 (hval 0 _ v0 rfl rfl) h0
  obtain ⟨a1, rfl, rfl, rfl⟩ := open_bool Try.underlying4 (hval 1 _ v1 rfl rfl) h1
  exact MatrixBounds_walk a0 a1 w0 W 

theorem MatrixBounds_over : Rows.matrixBoundsRow.holds Try.pinned (OpenSpec.ofChange Rows.matrixBoundsSpec) :=
  OpenClaim.holds_of_wide 9 Try.f9 rfl rfl rfl rfl rfl rfl rfl ⟨rfl, rfl, rfl, rfl, rfl⟩ rfl rfl rfl rfl rfl (by kernel_rfl) Try.func9 (by kernel_rfl)
    (of_decide_eq_true (by kernel_rfl)) (by unfold Func.isWrapper; first | (rw [if_pos (by decide +kernel)]; kernel_rfl) | (rw [if_neg (by decide +kernel)]; exact ⟨rfl, rfl⟩))
    (fun os started H enc _ => MatrixBounds_lifted os started H enc)
theorem MatrixBounds_holds : Rows.MatrixBoundsSaid := MatrixBounds_over
#print axioms MatrixBounds_holds
end Go.Proofs.Ythkhlcigegbpfaa
