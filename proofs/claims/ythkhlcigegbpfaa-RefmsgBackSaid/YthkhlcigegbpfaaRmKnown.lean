/- What the known beat of chapter 21 is. -/
import Derived.Test.YthkhlcigegbpfaaRmsg3
import Derived.Test.YthkhlcigegbpfaaMatKnown
namespace Go.Proofs.Ythkhlcigegbpfaa
set_option linter.unusedVariables false
set_option linter.unusedSimpArgs false
open Go.ChangeShapes Go.WideShapes Go.ChangeAt Go.RowKit Go.Deep

def leastR : Mat := ⟨2, 2, 2, 200, 1, 16, 0, 16, [0, 1], [], []⟩
theorem leastR_ok : leastR.Ok := by
  refine ⟨by decide, by decide, by decide, by decide, by decide, by decide, by decide, by decide, ?_, ?_, ?_⟩
  · intro x hx; simp [leastR] at hx; rcases hx with rfl | rfl <;> decide
  · intro x hx; simp [leastR] at hx
  · intro x hx; simp [leastR] at hx
theorem results_least21 {w : World} {b : Nat} {m : Mat} {s1 s2 s3 : Value} {tmps : Array Value} (ht : tmps.getD 0 undef = .pointer (some ⟨b, 0, none⟩)) (h : w.heap[b]? = some (boxM m s1 s2 s3)) :
    (results Try.f24 tmps).run Try.prog w = .ok (matV m s1 s2 s3) w := by
  obtain ⟨r0, r1, r2, r3, r4, r5, r6, r7, r8, r9, r10⟩ := boxM_c h
  have ht' : tmps[0]?.getD undef = .pointer (some ⟨b, 0, none⟩) := by simpa using ht
  simp [results, Try.results24, go_sem, ht', r0, r1, r2, r3, r4, r5, r6, r7, r8, r9, r10, matV]
set_option maxRecDepth 100000 in
theorem least21 (w : World) : Calls Try.prog 24 #[] w fun e w' => e = .returned (matV leastR (.slice (some ⟨w.heap.size + 1, 0, none⟩) 2 2) (.slice none 0 0) (.slice none 0 0)) ∧ Below w.heap.size w w' ∧ RdM w' leastR (.slice (some ⟨w.heap.size + 1, 0, none⟩) 2 2) (.slice none 0 0) (.slice none 0 0) := by
  go_enter Try.func24, Try.ntmps24
  go_wp2
  have h0 := (old_blk (w.alloc (boxM leastR (.slice (some ⟨w.heap.size + 1, 0, none⟩) 2 2) (.slice none 0 0) (.slice none 0 0))) (.cells #[.int .i64 0, .int .i64 1] 3) w.heap.size (by simp)).trans (new_blk _ _)
  have h1 := new_blk2 w (boxM leastR (.slice (some ⟨w.heap.size + 1, 0, none⟩) 2 2) (.slice none 0 0) (.slice none 0 0)) (.cells #[.int .i64 0, .int .i64 1] 3)
  refine bodyPost_ret (results_least21 rfl h0) rfl ⟨rfl, ((Below.refl _ _).alloc (Nat.le_refl _) _).alloc (by simp) _, leastR_ok, ?_, ?_, ?_⟩
  · refine ⟨some ⟨w.heap.size + 1, 0, none⟩, 2, rfl, by simp [leastR], by simp [maxLen], fun i x hi => ⟨w.heap.size + 1, 0, rfl, lt_of_heap h1, fun j u hj => ?_⟩⟩
    match i, hi with
    | 0, hi =>
      simp [leastR] at hi
      subst hi
      match j, hj with
      | 0, hj => simp [intC] at hj; subst hj; exact (cell_of h1 0).trans rfl
    | 1, hi =>
      simp [leastR] at hi
      subst hi
      match j, hj with
      | 0, hj => simp [intC] at hj; subst hj; exact (cell_of h1 1).trans rfl
  · exact ⟨none, 0, rfl, by simp [leastR], by simp [maxLen], fun i x hi => by simp [leastR] at hi⟩
  · exact ⟨none, 0, rfl, by simp [leastR], by simp [maxLen], fun i x hi => by simp [leastR] at hi⟩
theorem few21 {w : World} {m : Mat} {s1 s2 s3 : Value} (h : RdM w m s1 s2 s3) : Calls Try.prog 19 #[matV m s1 s2 s3] w fun e w' => e = .returned (.bool (decide (m.masters.length ≤ 10 ∧ m.msgs.length ≤ 20 ∧ m.wins.length ≤ 25))) ∧ Below w.heap.size w w' := by
  have hO := (Own.nil_ (Below.refl w.heap.size w) (Nat.le_refl _)).alloc (boxM m s1 s2 s3)
  obtain ⟨a1, p1, e1, r1⟩ := h.r1.shape
  obtain ⟨a2, p2, e2, r2⟩ := h.r2.shape
  obtain ⟨a3, p3, e3, r3⟩ := h.r3.shape
  subst e1 e2 e3
  have l1 := r1.len.2
  have l2 := r2.len.2
  have l3 := r3.len.2
  unfold maxLen at l1 l2 l3
  clear r1 r2 r3 h
  obtain ⟨c0, c1, c2, c3, c4, c5, c6, c7, c8, c9, c10⟩ := boxM_c hO.get0
  clear c0 c1 c2 c3 c4 c5 c6 c7
  unfold matV
  go_enter Try.func19, Try.ntmps19
  go_wp2
  all_goals first
    | (exfalso; omega)
    | (go_ret; exact ⟨ret_bool (by simp; omega), hO.bel⟩)
    | (go_ret; exact ⟨ret_bool (by rw [Bool.eq_iff_iff]; simp; omega), hO.bel⟩)
theorem held36 : Try.prog.stoodInHeld 36 = false := by kernel_rfl
theorem guard36 : Try.prog.eqGuardType Try.prog.depth 36 = false := by kernel_rfl
set_option maxRecDepth 100000 in
set_option maxHeartbeats 4000000 in
theorem known21 (w : World) : Calls Try.prog 18 #[] w fun e w' => e = .returned (.bool true) ∧ Below w.heap.size w w' := by
  have hp := held30
  have hg := guard30
  have hp6 := held36
  have hg6 := guard36
  go_enter Try.func18, Try.ntmps18
  go_wp2_with fail
  refine (least21 _).mono ?_
  rintro e w1 ⟨rfl, hB0, RM0⟩
  have RM := Lib.hid RM0
  have HB0 := Lib.hid hB0
  clear RM0 hB0
  have hO := (Own.nil_ (Below.refl w1.heap.size w1) (Nat.le_refl _)).alloc (boxM leastR (.slice (some ⟨w.heap.size + 1, 0, none⟩) 2 2) (.slice none 0 0) (.slice none 0 0))
  have LB := Lib.hid (show buildE leastR 1 1 4660 true = (⟨false, 17, false, ⟨#[1, 1, 18, 52]⟩⟩, true) by rfl)
  have LP := Lib.hid (show parseE leastR ⟨false, 17, false, ⟨#[1, 1, 18, 52]⟩⟩ = (⟨1, 1, 4660, true⟩, true) by rfl)
  have LN := Lib.hid (show buildE leastR 2 0 0 false = (noF, false) by rfl)
  simp only [matV, leastR]
  go_wp2_with fail
  refine (own_below hO (rm_build (RM.out.keep hO.bel) 1 1 4660 (by decide) (by decide) (by decide) true)).mono ?_
  rintro e w2 ⟨rfl, hO⟩
  rw [LB.out]
  simp only [frV]
  obtain ⟨c0, c1, c2, c3, c4, c5, c6, c7, c8, c9, c10⟩ := boxM_c hO.get0
  simp only [leastR] at c0 c1 c2 c3 c4 c5 c6 c7
  have hml := lt_of_heap hO.get0
  go_wp2_with fail
  replace hO := hO.alloc (boxF ⟨false, 17, false, ⟨#[1, 1, 18, 52]⟩⟩)
  refine (own_below hO (rm_parse (RM.out.keep hO.bel) (by decide) ⟨false, 17, false, ⟨#[1, 1, 18, 52]⟩⟩ (by decide) (by decide))).mono ?_
  rintro e w3 ⟨rfl, hO⟩
  rw [LP.out]
  simp only [btV]
  clear c0 c1 c2 c3 c4 c5 c6 c7 c8 c9 c10 hml
  obtain ⟨c0, c1, c2, c3, c4, c5, c6, c7, c8, c9, c10⟩ := boxM_c hO.get1
  simp only [leastR] at c0 c1 c2 c3 c4 c5 c6 c7
  have hml := lt_of_heap hO.get1
  go_wp2_with fail
  replace hO := hO.alloc (boxB ⟨1, 1, 4660, true⟩)
  refine (own_below hO (rm_build (RM.out.keep hO.bel) 2 0 0 (by decide) (by decide) (by decide) false)).mono ?_
  rintro e w4 ⟨rfl, hO⟩
  rw [LN.out]
  simp only [frV]
  clear c0 c1 c2 c3 c4 c5 c6 c7 c8 c9 c10 hml
  obtain ⟨g0, g1, g2, g3⟩ := boxF_c hO.get1
  obtain ⟨x0, x1, x2, x3⟩ := boxB_c hO.get0
  simp only at g0 g1 g2 g3 x0 x1 x2 x3
  have hl0 := lt_of_heap hO.get0
  have hl1 := lt_of_heap hO.get1
  go_wp2
  go_ret
  exact ⟨rfl, HB0.out.trans ((hO.bel.alloc (by have := hO.sz; omega) _).mono HB0.out.size)⟩
end Go.Proofs.Ythkhlcigegbpfaa
