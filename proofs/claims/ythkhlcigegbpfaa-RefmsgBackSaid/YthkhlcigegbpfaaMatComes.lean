/- Comes, of both texts. -/
import Derived.Test.YthkhlcigegbpfaaMatIs3
namespace Go.Proofs.Ythkhlcigegbpfaa
set_option linter.unusedVariables false
set_option linter.unusedSimpArgs false
open Go.ChangeShapes Go.WideShapes Go.ChangeAt Go.RowKit Go.Deep
def comesB (cycle rep now : Int) : Bool := decide (0 < rep) && decide (0 ≤ cycle) && decide (cycle ≤ now) && ((now - cycle) % rep == 0)
theorem mat_comes (cycle rep now : Int) (h1 : I64 cycle) (h2 : I64 rep) (h3 : I64 now) (w : World) : Calls Try.prog 39 #[.int .i64 cycle, .int .i64 rep, .int .i64 now] w fun e w' => e = .returned (.bool (comesB cycle rep now)) ∧ w = w' := by
  have b1 := h1.bounds
  have b2 := h2.bounds
  have b3 := h3.bounds
  rcases Int.lt_or_le 0 rep with k1 | k1
  · rcases Int.lt_or_le cycle 0 with k2 | k2
    · go_enter Try.func39, Try.ntmps39
      go_wp2
      all_goals first | (exfalso; omega) | (go_ret; exact ⟨ret_bool (by simp [comesB]; omega), rfl⟩)
    · rcases Int.lt_or_le now cycle with k3 | k3
      · go_enter Try.func39, Try.ntmps39
        go_wp2
        all_goals first | (exfalso; omega) | (go_ret; exact ⟨ret_bool (by simp [comesB]; omega), rfl⟩)
      · go_enter Try.func39, Try.ntmps39
        go_wp2
        all_goals first | (exfalso; omega) | (go_ret; exact ⟨ret_bool (by simp [comesB, k1, k2, k3]), rfl⟩)
  · go_enter Try.func39, Try.ntmps39
    go_wp2
    all_goals first | (exfalso; omega) | (go_ret; exact ⟨ret_bool (by simp [comesB]; omega), rfl⟩)
theorem rmat_comes (cycle rep now : Int) (h1 : I64 cycle) (h2 : I64 rep) (h3 : I64 now) (w : World) : Calls Try.prog 40 #[.int .i64 cycle, .int .i64 rep, .int .i64 now] w fun e w' => e = .returned (.bool (comesB cycle rep now)) ∧ w = w' := by
  have b1 := h1.bounds
  have b2 := h2.bounds
  have b3 := h3.bounds
  rcases Int.lt_or_le 0 rep with k1 | k1
  · rcases Int.lt_or_le cycle 0 with k2 | k2
    · go_enter Try.func40, Try.ntmps40
      go_wp2
      all_goals first | (exfalso; omega) | (go_ret; exact ⟨ret_bool (by simp [comesB]; omega), rfl⟩)
    · rcases Int.lt_or_le now cycle with k3 | k3
      · go_enter Try.func40, Try.ntmps40
        go_wp2
        all_goals first | (exfalso; omega) | (go_ret; exact ⟨ret_bool (by simp [comesB]; omega), rfl⟩)
      · go_enter Try.func40, Try.ntmps40
        go_wp2
        all_goals first | (exfalso; omega) | (go_ret; exact ⟨ret_bool (by simp [comesB, k1, k2, k3]), rfl⟩)
  · go_enter Try.func40, Try.ntmps40
    go_wp2
    all_goals first | (exfalso; omega) | (go_ret; exact ⟨ret_bool (by simp [comesB]; omega), rfl⟩)
end Go.Proofs.Ythkhlcigegbpfaa
