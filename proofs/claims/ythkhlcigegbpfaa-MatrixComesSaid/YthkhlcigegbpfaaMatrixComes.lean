/- MatrixComes: a cycle comes again after as many as it says, and in no other one. No conditions. -/
import Derived.Test.YthkhlcigegbpfaaMatKnown
namespace Go.Proofs.Ythkhlcigegbpfaa
set_option linter.unusedVariables false
set_option linter.unusedSimpArgs false
open Go.ChangeShapes Go.WideShapes Go.ChangeAt Go.RowKit Go.Deep

theorem i64_of {n : Int} (h1 : -9223372036854775808 ≤ n) (h2 : n ≤ 9223372036854775807) : I64 n := WalkArith.wf_i64 ⟨h1, h2⟩
set_option maxRecDepth 100000 in
set_option maxHeartbeats 1000000 in
theorem MatrixComes_walk (a0 a1 a2 : Int) (v0 : (Lit.int .i64 a0).wf = true) (v1 : (Lit.int .i64 a1).wf = true) (v2 : (Lit.int .i64 a2).wf = true) (w : World) :
    Holds 7 #[.int .i64 a0, .int .i64 a1, .int .i64 a2] w := by
  have b0 := I64.bounds v0
  have b1 := I64.bounds v1
  have b2 := I64.bounds v2
  unfold Holds
  go_enter Try.func7, Try.ntmps7
  go_wp2_with fail
  refine (known12 _).mono ?_
  rintro e w1 ⟨rfl, hb⟩
  obtain ⟨z, hz⟩ : ∃ z, comesB a0 a1 a2 = z := ⟨_, rfl⟩
  go_wp2_with fail
  refine (mat_comes a0 a1 a2 v0 v1 v2 _).mono ?_
  rintro e w' ⟨rfl, rfl⟩
  rw [hz]
  go_wp2_with fail
  refine (rmat_comes a0 a1 a2 v0 v1 v2 _).mono ?_
  rintro e w' ⟨rfl, rfl⟩
  rw [hz]
  clear hz
  by_cases hc : 1 ≤ a1 ∧ a1 ≤ 1000 ∧ 0 ≤ a0 ∧ a0 ≤ 1000
  · obtain ⟨k1, k2, k3, k4⟩ := hc
    obtain ⟨m, rfl⟩ := Int.eq_ofNat_of_zero_le (show 0 ≤ a1 by omega)
    cases z
    all_goals
      go_wp2_with fail
      all_goals try (exfalso; omega)
      go_loopw [7, 8] (fun n i wr => ∃ k : Nat, i = .int .i64 k ∧ k ≤ m ∧ n = .int .i64 (if k = 0 then 0 else 1) ∧ wr = w1) (fun _ i _ => m - (intOf i).toNat)
      case atStart => exact ⟨0, rfl, by omega, rfl, rfl⟩
      case round =>
        obtain ⟨k, rfl, hk, rfl, rfl⟩ := hrel
        by_cases hlt : k < m
        · by_cases h0 : k = 0
          · subst h0
            have HC := Lib.hid (show comesB a0 (m : Int) (a0 + ((0 : Nat) : Int)) = true by simp [comesB]; omega)
            go_wp2_with fail
            refine (mat_comes a0 m _ v0 v1 (i64_of (by omega) (by omega)) _).mono ?_
            rintro e w' ⟨rfl, rfl⟩
            have hc := HC.out
            simp only [Int.natCast_zero, Int.add_zero] at hc ⊢
            rw [hc]
            clear hc
            go_wp2_with fail
            go_roundw
            case rel => exact ⟨1, by go_num, by omega, by simp, by first | rfl | trivial⟩
            case measure => simp [intOf]; omega
          · have HC := Lib.hid (show comesB a0 (m : Int) (a0 + (k : Int)) = false by
              have e : a0 + (k : Int) - a0 = k := by omega
              have e2 : (k : Int) % m = k := Int.emod_eq_of_lt (by omega) (by omega)
              have e3 : ((k : Int) == 0) = false := by simp; omega
              simp only [comesB, e, e2, e3, Bool.and_false])
            simp only [h0, if_false]
            go_wp2_with fail
            refine (mat_comes a0 m _ v0 v1 (i64_of (by omega) (by omega)) _).mono ?_
            rintro e w' ⟨rfl, rfl⟩
            rw [HC.out]
            go_wp2_with fail
            go_roundw
            case rel => exact ⟨k + 1, by go_num, by omega, by simp, by first | rfl | trivial⟩
            case measure => simp [intOf]; omega
        · have h0 : ¬ k = 0 := by omega
          have HC1 := Lib.hid (show comesB a0 (m : Int) a0 = true by simp [comesB]; omega)
          have HC2 := Lib.hid (show comesB a0 (m : Int) (a0 - 1) = false by simp [comesB]; omega)
          simp only [h0, if_false]
          go_wp2_with fail
          refine (mat_comes a0 m _ v0 v1 v0 _).mono ?_
          rintro e w' ⟨rfl, rfl⟩
          rw [HC1.out]
          go_wp2_with fail
          refine (mat_comes a0 m _ v0 v1 (i64_of (by omega) (by omega)) _).mono ?_
          rintro e w' ⟨rfl, rfl⟩
          rw [HC2.out]
          go_wp2_with fail
          go_ret
          exact ⟨rfl, hb⟩
  · cases z
    all_goals
      go_wp2_with fail
      all_goals first | (exfalso; omega) | (go_ret; exact ⟨rfl, hb⟩)

set_option maxRecDepth 100000 in
theorem MatrixComes_lifted (os : Os) (started : os.Started) (H : Type) (enc : TypeId × Value → H) :
    ReturnsInHanded {} Try.checked os 7 .any (Rows.matrixComesSpec.pre6 enc Try.prog Try.f7 [] false) (Rows.matrixComesSpec.post enc Try.prog Try.f7 false true false false) := by
  refine law_lifted (n := 3) os started H enc (by kernel_rfl) Try.func7 rfl rfl (hts_of (by kernel_rfl)) rfl (fun ds h => match ds, h with | [_, _, _], _ => rfl)
    (ChangeSpec.witness6 (enc := enc) (C := Try.checked) false ⟨#[], #[.int .i64 0, .int .i64 0, .int .i64 0], []⟩ 8 (by kernel_rfl) (by kernel_rfl) (by kernel_rfl) (by kernel_rfl)) ?_
  intro W base args ds p hval hA
  rw [Try.params7] at hA hval
  obtain ⟨v0, vs0, d0, ds0, p0, q0, hargs, rfl, rfl, h0, r0⟩ := trodAll_cons hA
  obtain ⟨v1, vs1, d1, ds1, p1, q1, rfl, rfl, rfl, h1, r1⟩ := trodAll_cons r0
  obtain ⟨v2, vs2, d2, ds2, p2, q2, rfl, rfl, rfl, h2, r2⟩ := trodAll_cons r1
  obtain ⟨rfl, rfl, rfl⟩ := trodAll_nil r2
  obtain rfl : args = #[v0, v1, v2] := by cases args; simp_all
  obtain ⟨a0, rfl, rfl, rfl, w0⟩ := open_int Try.underlying3 (hval 0 _ v0 rfl rfl) h0
  obtain ⟨a1, rfl, rfl, rfl, w1⟩ := open_int Try.underlying3 (hval 1 _ v1 rfl rfl) h1
  obtain ⟨a2, rfl, rfl, rfl, w2⟩ := open_int Try.underlying3 (hval 2 _ v2 rfl rfl) h2
  exact MatrixComes_walk a0 a1 a2 w0 w1 w2 W 

theorem MatrixComes_over : Rows.matrixComesRow.holds Try.pinned (OpenSpec.ofChange Rows.matrixComesSpec) :=
  OpenClaim.holds_of_wide 7 Try.f7 rfl rfl rfl rfl rfl rfl rfl ⟨rfl, rfl, rfl, rfl, rfl⟩ rfl rfl rfl rfl rfl (by kernel_rfl) Try.func7 (by kernel_rfl)
    (of_decide_eq_true (by kernel_rfl)) (by unfold Func.isWrapper; first | (rw [if_pos (by decide +kernel)]; kernel_rfl) | (rw [if_neg (by decide +kernel)]; exact ⟨rfl, rfl⟩))
    (fun os started H enc _ => MatrixComes_lifted os started H enc)
theorem MatrixComes_holds : Rows.MatrixComesSaid := MatrixComes_over
#print axioms MatrixComes_holds
end Go.Proofs.Ythkhlcigegbpfaa
