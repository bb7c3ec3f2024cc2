/- The laws of one time for all, without a reference: known, GlobalGoes, GlobalRates hold at every input. No conditions. -/
import Derived.Test.YthlplemhpnnedaaFrame
import Derived.Test.YthlplemhpnnedaaOwn
import Derived.Test.YthlplemhpnnedaaGlobal
namespace Go.Proofs.Ythlplemhpnnedaa
set_option linter.unusedVariables false
set_option linter.unusedSimpArgs false
open Go.ChangeShapes Go.WideShapes Go.ChangeAt Go.RowKit

def ks1 : GlobalS := ⟨0, 100, 90, 0, 0, 0, 1⟩
def ks2 : GlobalS := ⟨0, 300, 300, 0, 100, 90, 2⟩
theorem global_known (w : World) : Calls Try.prog 8 #[] w fun e w' => e = .returned (.bool true) ∧ Below w.heap.size w w' := by
  have e1 : GlobalS.new.at 7 = 7 := by decide
  have e2 : ks1.at 95 = 105 := by decide
  have e3 : ks2.l1 = 200 := by decide
  have e4 : ks2.l2 = 210 := by decide
  have e5 : ks2.ok = true := by decide
  have e6 : ks2.rate 1000 = 1050 := by decide
  have e7 : ks2.rok 1000 = true := by decide
  have e8 : ks2.st = 2 := rfl
  go_enter Try.func8, Try.ntmps8
  go_wp2_with fail
  refine (own_add (Own.nil_ (Below.refl _ w) (Nat.le_refl _)) (glo_new _)).mono ?_
  rintro e w1 ⟨b, rfl, hO⟩
  go_wp2_with fail
  refine (own_quiet hO (glo_at hO.get0 _)).mono ?_
  rintro e w2 ⟨rfl, hO⟩
  go_wp2_with fail
  refine (own_upd0 hO (glo_beat hO.get0 _ _ _ _ (by decide))).mono ?_
  rintro e w3 ⟨rfl, hO⟩
  replace hO : Own w.heap.size w [(b, gloO ks1)] w3 := hO
  go_wp2_with fail
  refine (own_quiet hO (glo_at hO.get0 _)).mono ?_
  rintro e w4 ⟨rfl, hO⟩
  go_wp2_with fail
  refine (own_upd0 hO (glo_beat hO.get0 _ _ _ _ (by decide))).mono ?_
  rintro e w5 ⟨rfl, hO⟩
  replace hO : Own w.heap.size w [(b, gloO ks2)] w5 := hO
  go_wp2_with fail
  refine (own_quiet hO (glo_lengths hO.get0)).mono ?_
  rintro e w6 ⟨rfl, hO⟩
  go_wp2_with fail
  refine (own_quiet hO (glo_rate hO.get0 _ (by decide))).mono ?_
  rintro e w7 ⟨rfl, hO⟩
  go_wp2_with fail
  refine (own_same hO (glo_steady hO.get0)).mono ?_
  rintro e w8 ⟨rfl, hO⟩
  go_wp2
  go_ret
  exact ⟨rfl, hO.bel⟩

theorem GlobalGoes_walk (a0 a1 a2 a3 : Int) (w0 : (Lit.int .u16 a0).wf = true) (w1 : (Lit.int .u16 a1).wf = true) (w2 : (Lit.int .u16 a2).wf = true) (w3 : (Lit.int .i64 a3).wf = true) (w : World) :
    Holds 3 #[.int .u16 a0, .int .u16 a1, .int .u16 a2, .int .i64 a3] w := by
  have b0 := u16_bounds w0
  clear w0 w1 w2 w3
  have Q := Lib.hid (show GlobalS.new.beat a3 a0 a1 true = ⟨a3, a0, a1, 0, 0, 0, 1⟩ by simp [GlobalS.new, GlobalS.beat])
  have E1 := Lib.hid (show (⟨a3, a0, a1, 0, 0, 0, 1⟩ : GlobalS).at a1 = a0 by simp [GlobalS.at]; omega)
  have E2 := Lib.hid (show (⟨a3, a0, a1, 0, 0, 0, 1⟩ : GlobalS).at (IntKind.u16.wrap (a1 + a2)) = IntKind.u16.wrap (a0 + a2) by simp [GlobalS.at, wu16]; omega)
  unfold Holds
  go_enter Try.func3, Try.ntmps3
  go_wp2_with fail
  refine (global_known _).mono ?_
  rintro e w1 ⟨rfl, hb⟩
  go_wp2_with fail
  refine (own_add (Own.nil_ hb hb.size) (glo_new _)).mono ?_
  rintro e w2 ⟨b, rfl, hO⟩
  clear hb
  go_wp2_with fail
  refine (own_upd0 hO (glo_beat hO.get0 _ _ _ _ (by decide))).mono ?_
  rintro e w3 ⟨rfl, hO⟩
  rw [Q.out] at hO
  go_wp2_with fail
  refine (own_quiet hO (glo_at hO.get0 _)).mono ?_
  rintro e w4 ⟨rfl, hO⟩
  rw [E1.out]
  go_wp2_with fail
  refine (own_quiet hO (glo_at hO.get0 _)).mono ?_
  rintro e w5 ⟨rfl, hO⟩
  rw [E2.out]
  go_wp2_with fail
  refine (own_same hO (glo_steady hO.get0)).mono ?_
  rintro e w6 ⟨rfl, hO⟩
  go_wp2
  go_ret
  exact ⟨rfl, hO.bel⟩

theorem GlobalRates_walk (a0 a1 a2 a3 a4 : Int) (w0 : (Lit.int .u16 a0).wf = true) (w1 : (Lit.int .u16 a1).wf = true) (w2 : (Lit.int .u16 a2).wf = true) (w3 : (Lit.int .i8 a3).wf = true) (w4 : (Lit.int .u16 a4).wf = true) (w : World) :
    Holds 4 #[.int .u16 a0, .int .u16 a1, .int .u16 a2, .int .i8 a3, .int .u16 a4] w := by
  have b0 := u16_bounds w0
  have b1 := u16_bounds w1
  have b2 := u16_bounds w2
  have b3 : -128 ≤ a3 ∧ a3 ≤ 127 := bounds_i8 w3
  have b4 := u16_bounds w4
  have hr : (Lit.int .i64 (a4 + 1)).wf = true := WalkArith.wf_i64 (by omega)
  clear w0 w1 w2 w3 w4
  obtain ⟨gN, hgN⟩ : ∃ x, x = IntKind.u16.wrap (a0 + (a2 % 5000 + 200)) := ⟨_, rfl⟩
  obtain ⟨mK, hmK⟩ : ∃ x, x = IntKind.u16.wrap (a1 + (a2 % 5000 + 200 + a3)) := ⟨_, rfl⟩
  obtain ⟨V, hV⟩ : ∃ V, (a4 + 1) * (a2 % 5000 + 200 + a3) / (a2 % 5000 + 200) = V := ⟨_, rfl⟩
  have hp0 : 0 ≤ (a4 + 1) * (a2 % 5000 + 200 + a3) := Int.mul_nonneg (by omega) (by omega)
  have hp1 : (a4 + 1) * (a2 % 5000 + 200 + a3) ≤ 65536 * 6000 := Int.mul_le_mul (by omega) (by omega) (by omega) (by omega)
  have Q1 := Lib.hid (show GlobalS.new.beat 1 a0 a1 false = ⟨1, a0, a1, 0, 0, 0, 1⟩ by simp [GlobalS.new, GlobalS.beat])
  have Q2 := Lib.hid (show (⟨1, a0, a1, 0, 0, 0, 1⟩ : GlobalS).beat 1 gN mK false = ⟨1, gN, mK, 1, a0, a1, 2⟩ by simp [GlobalS.beat]; try omega)
  have Q3 := Lib.hid (show (⟨1, a0, a1, 0, 0, 0, 1⟩ : GlobalS).beat 2 (IntKind.u16.wrap (a0 + 5)) (IntKind.u16.wrap (a1 + 5)) false = ⟨2, IntKind.u16.wrap (a0 + 5), IntKind.u16.wrap (a1 + 5), 1, a0, a1, 1⟩ by simp [GlobalS.beat])
  have l1 : (⟨1, gN, mK, 1, a0, a1, 2⟩ : GlobalS).l1 = a2 % 5000 + 200 := by simp [GlobalS.l1, since, hgN, wu16]; omega
  have l2 : (⟨1, gN, mK, 1, a0, a1, 2⟩ : GlobalS).l2 = a2 % 5000 + 200 + a3 := by simp [GlobalS.l2, since, hmK, wu16]; omega
  have R1 := Lib.hid (show (⟨1, gN, mK, 1, a0, a1, 2⟩ : GlobalS).rok (a4 + 1) = true by unfold GlobalS.rok; rw [l1, l2]; simp; omega)
  have R2 := Lib.hid (show (⟨1, gN, mK, 1, a0, a1, 2⟩ : GlobalS).rate (a4 + 1) = V by unfold GlobalS.rate; rw [if_pos R1.out, l1, l2, hV])
  have R3 := Lib.hid (show (⟨2, IntKind.u16.wrap (a0 + 5), IntKind.u16.wrap (a1 + 5), 1, a0, a1, 1⟩ : GlobalS).rok (a4 + 1) = false by simp [GlobalS.rok])
  have R4 := Lib.hid (show (⟨2, IntKind.u16.wrap (a0 + 5), IntKind.u16.wrap (a1 + 5), 1, a0, a1, 1⟩ : GlobalS).rate (a4 + 1) = a4 + 1 by simp [GlobalS.rate, R3.out])
  clear l1 l2
  have v0 : a3 = 0 → V = a4 + 1 := by
    intro h; subst h; rw [← hV, Int.add_zero]; exact Int.mul_ediv_cancel _ (by omega)
  have v1 : 0 ≤ a3 → a4 + 1 ≤ V := by
    intro h; rw [← hV]; apply Int.le_ediv_of_mul_le (by omega); exact Int.mul_le_mul_of_nonneg_left (by omega) (by omega)
  have v2 : a3 ≤ 0 → V ≤ a4 + 1 := by
    intro h; rw [← hV]; apply Int.ediv_le_of_le_mul (by omega); exact Int.mul_le_mul_of_nonneg_left (by omega) (by omega)
  have G1 := Lib.hid hgN
  have G2 := Lib.hid hmK
  clear hgN hmK
  have core : ∀ (x y : Prop), (a3 = 0 ∧ V = a4 + 1) ∨ (a3 < 0 ∧ V ≤ a4 + 1) ∨ (0 < a3 ∧ a4 + 1 ≤ V) := by
    intro _ _
    rcases Int.lt_trichotomy a3 0 with h | h | h
    · exact .inr (.inl ⟨h, v2 (by omega)⟩)
    · exact .inl ⟨h, v0 h⟩
    · exact .inr (.inr ⟨h, v1 (by omega)⟩)
  have HC := Lib.hid (core True True)
  clear core v0 v1 v2
  unfold Holds
  go_enter Try.func4, Try.ntmps4
  go_wp2_with fail
  refine (global_known _).mono ?_
  rintro e w1 ⟨rfl, hb⟩
  go_wp2_with fail
  refine (own_add (Own.nil_ hb hb.size) (glo_new _)).mono ?_
  rintro e w2 ⟨b, rfl, hO⟩
  clear hb
  go_wp2_with fail
  refine (own_upd0 hO (glo_beat hO.get0 _ _ _ _ (by decide))).mono ?_
  rintro e w3 ⟨rfl, hO⟩
  rw [Q1.out] at hO
  go_wp2_with fail
  rw [← G1.out, ← G2.out]
  refine (own_upd0 hO (glo_beat hO.get0 _ _ _ _ (by simp))).mono ?_
  rintro e w4 ⟨rfl, hO⟩
  rw [Q2.out] at hO
  go_wp2_with fail
  refine (own_quiet hO (glo_rate hO.get0 _ hr)).mono ?_
  rintro e w5 ⟨rfl, hO⟩
  rw [R1.out, R2.out]
  replace hO := Own.nil_ hO.bel hO.sz
  go_wp2_with fail
  refine (own_add hO (glo_new _)).mono ?_
  rintro e w6 ⟨b', rfl, hO⟩
  go_wp2_with fail
  refine (own_upd0 hO (glo_beat hO.get0 _ _ _ _ (by decide))).mono ?_
  rintro e w7 ⟨rfl, hO⟩
  rw [Q1.out] at hO
  go_wp2_with fail
  refine (own_upd0 hO (glo_beat hO.get0 _ _ _ _ (by simp))).mono ?_
  rintro e w8 ⟨rfl, hO⟩
  rw [Q3.out] at hO
  go_wp2_with fail
  refine (own_quiet hO (glo_rate hO.get0 _ hr)).mono ?_
  rintro e w9 ⟨rfl, hO⟩
  rw [R3.out, R4.out]
  rcases HC.out with ⟨h1, h2⟩ | ⟨h1, h2⟩ | ⟨h1, h2⟩
  · have d1 : (a3 != 0) = false := by simp [h1]
    have d2 : (V == a4 + 1) = true := by simp [h2]
    have g1 : V ≤ a4 + 1 := by omega
    have g2 : a4 + 1 ≤ V := by omega
    have g3 : 0 ≤ a3 := by omega
    have g4 : a3 ≤ 0 := by omega
    clear h1 h2
    go_wp2
    go_ret
    exact ⟨rfl, hO.bel⟩
  · have d1 : (a3 != 0) = true := by simp; omega
    go_wp2
    go_ret
    exact ⟨rfl, hO.bel⟩
  · have d1 : (a3 != 0) = true := by simp; omega
    go_wp2
    go_ret
    exact ⟨rfl, hO.bel⟩

set_option maxRecDepth 100000 in
theorem GlobalGoes_lifted (os : Os) (started : os.Started) (H : Type) (enc : TypeId × Value → H) :
    ReturnsInHanded {} Try.checked os 3 .any (Rows.globalGoesSpec.pre6 enc Try.prog Try.f3 [] false) (Rows.globalGoesSpec.post enc Try.prog Try.f3 false true false false) := by
  refine law_lifted (n := 4) os started H enc (by kernel_rfl) Try.func3 rfl rfl (hts_of (by kernel_rfl)) rfl (fun ds h => match ds, h with | [_, _, _, _], _ => rfl)
    (ChangeSpec.witness6 (enc := enc) (C := Try.checked) false ⟨#[], #[.int .u16 0, .int .u16 0, .int .u16 0, .int .i64 0], []⟩ 8 (by kernel_rfl) (by kernel_rfl) (by kernel_rfl) (by kernel_rfl)) ?_
  intro W base args ds p hval hA
  rw [Try.params3] at hA hval
  obtain ⟨v0, vs0, d0, ds0, p0, q0, hargs, rfl, rfl, h0, r0⟩ := trodAll_cons hA
  obtain ⟨v1, vs1, d1, ds1, p1, q1, rfl, rfl, rfl, h1, r1⟩ := trodAll_cons r0
  obtain ⟨v2, vs2, d2, ds2, p2, q2, rfl, rfl, rfl, h2, r2⟩ := trodAll_cons r1
  obtain ⟨v3, vs3, d3, ds3, p3, q3, rfl, rfl, rfl, h3, r3⟩ := trodAll_cons r2
  obtain ⟨rfl, rfl, rfl⟩ := trodAll_nil r3
  obtain rfl : args = #[v0, v1, v2, v3] := by cases args; simp_all
  obtain ⟨a0, rfl, rfl, rfl, w0⟩ := open_int Try.underlying22 (hval 0 _ v0 rfl rfl) h0
  obtain ⟨a1, rfl, rfl, rfl, w1⟩ := open_int Try.underlying22 (hval 1 _ v1 rfl rfl) h1
  obtain ⟨a2, rfl, rfl, rfl, w2⟩ := open_int Try.underlying22 (hval 2 _ v2 rfl rfl) h2
  obtain ⟨a3, rfl, rfl, rfl, w3⟩ := open_int Try.underlying3 (hval 3 _ v3 rfl rfl) h3
  exact GlobalGoes_walk a0 a1 a2 a3 w0 w1 w2 w3 W 

theorem GlobalGoes_over : Rows.globalGoesRow.holds Try.pinned (OpenSpec.ofChange Rows.globalGoesSpec) :=
  OpenClaim.holds_of_wide 3 Try.f3 rfl rfl rfl rfl rfl rfl rfl ⟨rfl, rfl, rfl, rfl, rfl⟩ rfl rfl rfl rfl rfl (by kernel_rfl) Try.func3 (by kernel_rfl)
    (of_decide_eq_true (by kernel_rfl)) (by unfold Func.isWrapper; first | (rw [if_pos (by decide +kernel)]; kernel_rfl) | (rw [if_neg (by decide +kernel)]; exact ⟨rfl, rfl⟩))
    (fun os started H enc _ => GlobalGoes_lifted os started H enc)
theorem GlobalGoes_holds : Rows.GlobalGoesSaid := GlobalGoes_over
#print axioms GlobalGoes_holds

set_option maxRecDepth 100000 in
theorem GlobalRates_lifted (os : Os) (started : os.Started) (H : Type) (enc : TypeId × Value → H) :
    ReturnsInHanded {} Try.checked os 4 .any (Rows.globalRatesSpec.pre6 enc Try.prog Try.f4 [] false) (Rows.globalRatesSpec.post enc Try.prog Try.f4 false true false false) := by
  refine law_lifted (n := 5) os started H enc (by kernel_rfl) Try.func4 rfl rfl (hts_of (by kernel_rfl)) rfl (fun ds h => match ds, h with | [_, _, _, _, _], _ => rfl)
    (ChangeSpec.witness6 (enc := enc) (C := Try.checked) false ⟨#[], #[.int .u16 0, .int .u16 0, .int .u16 0, .int .i8 0, .int .u16 0], []⟩ 8 (by kernel_rfl) (by kernel_rfl) (by kernel_rfl) (by kernel_rfl)) ?_
  intro W base args ds p hval hA
  rw [Try.params4] at hA hval
  obtain ⟨v0, vs0, d0, ds0, p0, q0, hargs, rfl, rfl, h0, r0⟩ := trodAll_cons hA
  obtain ⟨v1, vs1, d1, ds1, p1, q1, rfl, rfl, rfl, h1, r1⟩ := trodAll_cons r0
  obtain ⟨v2, vs2, d2, ds2, p2, q2, rfl, rfl, rfl, h2, r2⟩ := trodAll_cons r1
  obtain ⟨v3, vs3, d3, ds3, p3, q3, rfl, rfl, rfl, h3, r3⟩ := trodAll_cons r2
  obtain ⟨v4, vs4, d4, ds4, p4, q4, rfl, rfl, rfl, h4, r4⟩ := trodAll_cons r3
  obtain ⟨rfl, rfl, rfl⟩ := trodAll_nil r4
  obtain rfl : args = #[v0, v1, v2, v3, v4] := by cases args; simp_all
  obtain ⟨a0, rfl, rfl, rfl, w0⟩ := open_int Try.underlying22 (hval 0 _ v0 rfl rfl) h0
  obtain ⟨a1, rfl, rfl, rfl, w1⟩ := open_int Try.underlying22 (hval 1 _ v1 rfl rfl) h1
  obtain ⟨a2, rfl, rfl, rfl, w2⟩ := open_int Try.underlying22 (hval 2 _ v2 rfl rfl) h2
  obtain ⟨a3, rfl, rfl, rfl, w3⟩ := open_int Try.underlying30 (hval 3 _ v3 rfl rfl) h3
  obtain ⟨a4, rfl, rfl, rfl, w4⟩ := open_int Try.underlying22 (hval 4 _ v4 rfl rfl) h4
  exact GlobalRates_walk a0 a1 a2 a3 a4 w0 w1 w2 w3 w4 W 

theorem GlobalRates_over : Rows.globalRatesRow.holds Try.pinned (OpenSpec.ofChange Rows.globalRatesSpec) :=
  OpenClaim.holds_of_wide 4 Try.f4 rfl rfl rfl rfl rfl rfl rfl ⟨rfl, rfl, rfl, rfl, rfl⟩ rfl rfl rfl rfl rfl (by kernel_rfl) Try.func4 (by kernel_rfl)
    (of_decide_eq_true (by kernel_rfl)) (by unfold Func.isWrapper; first | (rw [if_pos (by decide +kernel)]; kernel_rfl) | (rw [if_neg (by decide +kernel)]; exact ⟨rfl, rfl⟩))
    (fun os started H enc _ => GlobalRates_lifted os started H enc)
theorem GlobalRates_holds : Rows.GlobalRatesSaid := GlobalRates_over
#print axioms GlobalRates_holds
end Go.Proofs.Ythlplemhpnnedaa
