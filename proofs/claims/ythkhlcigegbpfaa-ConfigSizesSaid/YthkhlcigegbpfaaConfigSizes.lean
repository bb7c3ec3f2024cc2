/- ConfigSizes: a matrix has so many bytes as its lists ask for. No conditions. -/
import Derived.Test.YthkhlcigegbpfaaCfKnown
namespace Go.Proofs.Ythkhlcigegbpfaa
set_option linter.unusedVariables false
set_option linter.unusedSimpArgs false
open Go.ChangeShapes Go.WideShapes Go.ChangeAt Go.RowKit Go.Deep

set_option maxRecDepth 100000 in
set_option maxHeartbeats 2000000 in
theorem ConfigSizes_core (m : Mat) (s1 s2 s3 : Value) (w : World) (h : RdM w m s1 s2 s3) : Holds 15 #[matV m s1 s2 s3] w := by
  have hO := (Own.nil_ (Below.refl w.heap.size w) (Nat.le_refl _)).alloc (boxM m s1 s2 s3)
  obtain ⟨a1, p1, e1, r1⟩ := h.r1.shape
  obtain ⟨a2, p2, e2, r2⟩ := h.r2.shape
  obtain ⟨a3, p3, e3, r3⟩ := h.r3.shape
  subst e1 e2 e3
  clear r1 r2 r3
  have RM := Lib.hid h
  clear h
  unfold Holds matV
  go_enter Try.func15, Try.ntmps15
  go_wp2_with fail
  refine (own_below hO (known13 _)).mono ?_
  rintro e w1 ⟨rfl, hO⟩
  obtain ⟨c0, c1, c2, c3, c4, c5, c6, c7, c8, c9, c10⟩ := boxM_c hO.get0
  have hml := lt_of_heap hO.get0
  go_wp2_with fail
  refine (own_below hO (few13 (RM.out.keep hO.bel))).mono ?_
  rintro e w2 ⟨rfl, hO⟩
  by_cases hf : m.masters.length ≤ 10 ∧ m.msgs.length ≤ 20 ∧ m.wins.length ≤ 25
  rotate_left
  · rw [decide_eq_false hf]
    go_wp2
    go_ret
    exact ⟨rfl, hO.bel⟩
  rw [decide_eq_true hf]
  clear c0 c1 c2 c3 c4 c5 c6 c7 c8 c9 c10 hml
  obtain ⟨c0, c1, c2, c3, c4, c5, c6, c7, c8, c9, c10⟩ := boxM_c hO.get0
  have hml := lt_of_heap hO.get0
  obtain ⟨f1, f2, f3⟩ := hf
  obtain ⟨z, hz⟩ : ∃ z, isB m = z := ⟨_, rfl⟩
  obtain ⟨p, hp⟩ : ∃ p, printE m = p := ⟨_, rfl⟩
  have hn : (z = true → p.size = 15 + m.masters.length + 4 * m.msgs.length + 8 * m.wins.length ∧ p.size ≤ 195) ∧ (z = false → p.size = 0) := by
    subst hp
    refine ⟨fun e => ⟨print_size (hz.trans e), print_small⟩, fun e => ?_⟩
    rw [print_none (hz.trans e)]
    rfl
  have HZ := Lib.hid hz
  have HP := Lib.hid hp
  have HN := Lib.hid hn
  clear hz hp hn
  go_wp2_with fail
  refine (own_below hO (cf_size (RM.out.keep hO.bel))).mono ?_
  rw [HP.out]
  rintro e w3 ⟨rfl, hO⟩
  clear c0 c1 c2 c3 c4 c5 c6 c7 c8 c9 c10 hml
  obtain ⟨c0, c1, c2, c3, c4, c5, c6, c7, c8, c9, c10⟩ := boxM_c hO.get0
  have hml := lt_of_heap hO.get0
  go_wp2_with fail
  refine (own_below hO (cf_print (RM.out.keep hO.bel))).mono ?_
  rw [HP.out]
  rintro e w4 ⟨rfl, hO⟩
  clear c0 c1 c2 c3 c4 c5 c6 c7 c8 c9 c10 hml
  obtain ⟨c0, c1, c2, c3, c4, c5, c6, c7, c8, c9, c10⟩ := boxM_c hO.get0
  have hml := lt_of_heap hO.get0
  cases z
  · have h0 : p.size ≤ 0 := by have := HN.out.2 rfl; omega
    go_wp2_with fail
    all_goals try (exfalso; omega)
    refine (own_below hO (rmat_is (RM.out.keep hO.bel))).mono ?_
    rw [HZ.out]
    rintro e w5 ⟨rfl, hO⟩
    go_wp2
    all_goals first | (exfalso; omega) | (go_ret; exact ⟨rfl, hO.bel⟩)
  · have h0 := HN.out.1 rfl
    have h1 : p.size ≤ 15 + m.masters.length + 4 * m.msgs.length + 8 * m.wins.length := by omega
    have h2 : 15 + m.masters.length + 4 * m.msgs.length + 8 * m.wins.length ≤ p.size := by omega
    have h3 := h0.2
    clear h0
    go_wp2
    all_goals first | (exfalso; omega) | (go_ret; exact ⟨rfl, hO.bel⟩) | (go_ret; exact ⟨ret_bool (by simp; omega), hO.bel⟩)
set_option maxRecDepth 100000 in
theorem ConfigSizes_walk {H : Type} {enc : TypeId × Value → H} {base : Nat} {d0 : DataW H} {p0 : List MemPlace} (v0 : Value) (W : World)
    (hv0 : Value.okWide Try.prog W .any base 27 v0) (h0 : DataW.Trod enc Try.prog W 0 (fun _ => true) true 27 v0 d0 p0) : Holds 15 #[v0] W := by
  obtain ⟨a, s1, s2, s3, rfl, ra⟩ := open_mat hv0 h0
  exact ConfigSizes_core a s1 s2 s3 W ra

set_option maxRecDepth 100000 in
theorem ConfigSizes_lifted (os : Os) (started : os.Started) (H : Type) (enc : TypeId × Value → H) :
    ReturnsInHanded {} Try.checked os 15 .any (Rows.configSizesSpec.pre6 enc Try.prog Try.f15 [] false) (Rows.configSizesSpec.post enc Try.prog Try.f15 false true false false) := by
  refine law_lifted (n := 1) os started H enc (by kernel_rfl) Try.func15 rfl rfl (hts_of (by kernel_rfl)) rfl (fun ds h => match ds, h with | [_], _ => rfl)
    (ChangeSpec.witness6 (enc := enc) (C := Try.checked) false ⟨#[], #[.agg #[.int .i64 0, .int .i64 0, .int .i64 0, .int .i64 0, .int .i64 0, .int .i64 0, .int .i64 0, .int .u32 0, .slice none 0 0, .slice none 0 0, .slice none 0 0]], []⟩ 8 (by kernel_rfl) (by kernel_rfl) (by kernel_rfl) (by kernel_rfl)) ?_
  intro W base args ds p hval hA
  rw [Try.params15] at hA hval
  obtain ⟨v0, vs0, d0, ds0, p0, q0, hargs, rfl, rfl, h0, r0⟩ := trodAll_cons hA
  obtain ⟨rfl, rfl, rfl⟩ := trodAll_nil r0
  obtain rfl : args = #[v0] := by cases args; simp_all
  exact ConfigSizes_walk v0 W (hval 0 _ v0 rfl rfl) h0

theorem ConfigSizes_over : Rows.configSizesRow.holds Try.pinned (OpenSpec.ofChange Rows.configSizesSpec) :=
  OpenClaim.holds_of_wide 15 Try.f15 rfl rfl rfl rfl rfl rfl rfl ⟨rfl, rfl, rfl, rfl, rfl⟩ rfl rfl rfl rfl rfl (by kernel_rfl) Try.func15 (by kernel_rfl)
    (of_decide_eq_true (by kernel_rfl)) (by unfold Func.isWrapper; first | (rw [if_pos (by decide +kernel)]; kernel_rfl) | (rw [if_neg (by decide +kernel)]; exact ⟨rfl, rfl⟩))
    (fun os started H enc _ => ConfigSizes_lifted os started H enc)
theorem ConfigSizes_holds : Rows.ConfigSizesSaid := ConfigSizes_over
#print axioms ConfigSizes_holds
end Go.Proofs.Ythkhlcigegbpfaa
