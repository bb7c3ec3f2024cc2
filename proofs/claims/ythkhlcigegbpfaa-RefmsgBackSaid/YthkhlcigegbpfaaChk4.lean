/- The reference's window, Check. -/
import Derived.Test.YthkhlcigegbpfaaChk3
import Derived.Deep.CutBlock
namespace Go.Proofs.Ythkhlcigegbpfaa
set_option linter.unusedVariables false
set_option linter.unusedSimpArgs false
open Go.ChangeShapes Go.WideShapes Go.ChangeAt Go.RowKit Go.Deep

theorem world_outK {B : Nat} {w0 w : World} {L : List (Nat × Obj)} {P : World → Prop} (h : Own B w0 L w) (k : ∀ v, Own B w0 L v → P v) : P w := k w h
set_option maxRecDepth 100000 in
set_option maxHeartbeats 4000000 in
theorem r_window {w : World} {m : Mat} {s1 s2 s3 : Value} (h : RdM w m s1 s2 s3) (hB : isB m = true) (i : Nat) (hi : i < m.wins.length) :
    Calls Try.prog 54 #[matV m s1 s2 s3, .int .i64 i] w (SomeI w) := by
  have hO := (Own.nil_ (Below.refl w.heap.size w) (Nat.le_refl _)).alloc (boxM m s1 s2 s3)
  obtain ⟨a1, p1, e1, r1⟩ := h.r1.shape
  obtain ⟨a2, p2, e2, r2⟩ := h.r2.shape
  obtain ⟨a3, p3, e3, r3⟩ := h.r3.shape
  subst e1 e2 e3
  have l1 := r1.len.2
  have l2 := r2.len.2
  have l3 := r3.len.2
  unfold maxLen at l1 l2 l3
  have RM := Lib.hid h
  have R1 := Lib.hid r1
  have R2 := Lib.hid r2
  have R3 := Lib.hid r3
  clear r1 r2 r3 h
  obtain ⟨c0, c1, c2, c3, c4, c5, c6, c7, c8, c9, c10⟩ := boxM_c hO.get0
  have hml := lt_of_heap hO.get0
  have hbd := bds_of hB
  have d3 := hbd.l3
  have hii : (i : Int) < m.wins.length := by omega
  obtain ⟨y, b, off, hmy, ey, hY⟩ := win_at R3.out hi
  subst ey
  have HY := Lib.hid hY
  have hyb := hbd.wins y hmy
  have HBB := Lib.hid hB
  obtain ⟨⟨x0, x1, x2, x3, x4, x5⟩, xl⟩ := hY w (Below.refl _ _)
  obtain ⟨st, hst⟩ : ∃ st, stepE m = st := ⟨_, rfl⟩
  have hsb := stepE_bd (m := m)
  rw [hst] at hsb
  have HST := Lib.hid hst
  clear hbd hY hmy hB hst
  have hO2 := hO.alloc (winO y)
  rw [show (w.alloc (boxM m (.slice a1 m.masters.length p1) (.slice a2 m.msgs.length p2) (.slice (some ⟨b, off, none⟩) m.wins.length p3))).heap.size = w.heap.size + 1 by simp] at hO2
  unfold matV
  go_enter Try.func54, Try.ntmps54
  go_upto_region 2 with fail
  clear c0 c1 c2 c3 c4 c5 c6 c7 c8 c9 c10 hml x0 x1 x2 x3 x4 x5 xl hO
  go_cut [31] (fun c wx => Hid (∃ z : Bool, c = .bool z ∧ Own w.heap.size w [(w.heap.size + 1, winO y), (w.heap.size, boxM m (.slice a1 m.masters.length p1) (.slice a2 m.msgs.length p2) (.slice (some ⟨b, off, none⟩) m.wins.length p3))] wx))
  case first =>
    refine world_outK hO2 ?_
    intro wq hO
    clear hO2
    obtain ⟨x0, x1, x2, x3, x4, x5⟩ := winO_c hO.get0
    have xl := lt_of_heap hO.get0
    obtain ⟨c0, c1, c2, c3, c4, c5, c6, c7, c8, c9, c10⟩ := boxM_c hO.get1
    have hml := lt_of_heap hO.get1
    by_cases hk1 : y.kind = 1
    · have hk1' : (y.kind == 1) = true := by simpa using hk1
      clear hk1
      by_cases hge : (m.msgs.length : Int) ≤ y.msg
      · go_wp2_with fail
        all_goals try (exfalso; omega)
        go_meet
        exact Lib.hid ⟨_, rfl, hO⟩
      · obtain ⟨q, hq⟩ := Int.eq_ofNat_of_zero_le hyb.2.2.2.2.2.1
        have hql : q < m.msgs.length := by omega
        rw [hq] at x5 hge
        have hqi : (q : Int) < m.msgs.length := by omega
        obtain ⟨z, b2, off2, hz, hmz, ez, hbz, hcz⟩ := (R2.out.keep hO.bel).at_ q hql
        have e2 := hcz 2 _ rfl
        simp only [Nat.add_zero, ← Nat.add_assoc] at e2
        subst ez
        clear hcz hz hmz
        go_wp2_with fail
        all_goals try (exfalso; omega)
        go_meet
        exact Lib.hid ⟨_, rfl, hO⟩
    · have hk1' : (y.kind == 1) = false := by simpa using hk1
      clear hk1
      go_wp2_with fail
      go_meet
      exact Lib.hid ⟨_, rfl, hO⟩
  case rest =>
    clear hO2
    obtain ⟨z, rfl, hO⟩ := hcut.out
    clear hcut
    cases z
    rotate_left
    · go_wp2
      go_ret
      exact ⟨145, by decide, rfl, hO.bel⟩
    go_wp2_with fail
    go_cut [51] (fun c wx => Hid (∃ z : Bool, c = .bool z ∧ Own w.heap.size w [(w.heap.size + 1, winO y), (w.heap.size, boxM m (.slice a1 m.masters.length p1) (.slice a2 m.msgs.length p2) (.slice (some ⟨b, off, none⟩) m.wins.length p3))] wx))
    case first =>
      by_cases hA : y.start < st
      · have hA' : decide (y.start < st) = true := by simpa using hA
        clear hA hyb hsb
        refine wp_region_held_drew (S := fun w' => Own w.heap.size w [(w.heap.size + 1, winO y), (w.heap.size, boxM m (.slice a1 m.masters.length p1) (.slice a2 m.msgs.length p2) (.slice (some ⟨b, off, none⟩) m.wins.length p3))] w') (by kernel_rfl) hO.drew (fun hHeld => ?_)
        clear hO
        refine take_op 0 rfl (by kernel_rfl) (by kernel_rfl) (by kernel_rfl) (fun _ _ _ h => h) (by rfl) (by (intro w hSw; (try dsimp only at hSw); go_simp; (try with_reducible rfl))) (by assumption) ?_
        simp only [Act.put, List.setIfInBounds_toArray, List.set_cons_zero, List.set_cons_succ]
        refine take_op 1 rfl (by kernel_rfl) (by kernel_rfl) (by kernel_rfl) (fun _ _ _ h => h) (by rfl) (by (intro wz hSw; (obtain ⟨x0, x1, x2, x3, x4, x5⟩ := winO_c hSw.get0); go_simp; (try with_reducible rfl))) (by assumption) ?_
        simp only [Act.put, List.setIfInBounds_toArray, List.set_cons_zero, List.set_cons_succ]
        refine take_op 2 rfl (by kernel_rfl) (by kernel_rfl) (by kernel_rfl) (fun _ _ _ h => h) (by rfl) (by (intro wz hSw; (obtain ⟨c0, c1, c2, c3, c4, c5, c6, c7, c8, c9, c10⟩ := boxM_c hSw.get1); go_simp; (try with_reducible rfl))) (by assumption) ?_
        simp only [Act.put, List.setIfInBounds_toArray, List.set_cons_zero, List.set_cons_succ]
        refine at_op 3 rfl (by kernel_rfl) (by rfl) (fun K hK => ?_)
        go_simp
        refine (own_below hHeld (r_step (RM.out.keep hHeld.bel))).mono ?_
        rw [HST.out]
        rintro e w5 ⟨rfl, hO⟩
        refine hK.out _ _ ?_ (fun hHeld => ?_)
        · exact hO
        clear hK K
        try simp only [Act.put, List.setIfInBounds_toArray, List.set_cons_zero, List.set_cons_succ]
        refine take_op 4 rfl (by kernel_rfl) (by kernel_rfl) (by kernel_rfl) (fun _ _ _ h => h) (by rfl) (by (intro w hSw; (try dsimp only at hSw); go_simp; (try with_reducible rfl))) (by assumption) ?_
        simp only [Act.put, List.setIfInBounds_toArray, List.set_cons_zero, List.set_cons_succ]
        refine take_op 5 rfl (by kernel_rfl) (by kernel_rfl) (by kernel_rfl) (fun _ _ _ h => h) (by rfl) (by (intro w hSw; (try dsimp only at hSw); go_simp; (try with_reducible rfl))) (by assumption) ?_
        simp only [Act.put, List.setIfInBounds_toArray, List.set_cons_zero, List.set_cons_succ]
        refine skip_op 6 rfl (by kernel_rfl) (by kernel_rfl) (by kernel_rfl) (fun _ _ _ h => h) (by rfl) (by assumption) ?_
        simp only [Act.put, List.setIfInBounds_toArray, List.set_cons_zero, List.set_cons_succ]
        refine skip_op 7 rfl (by kernel_rfl) (by kernel_rfl) (by kernel_rfl) (fun _ _ _ h => h) (by rfl) (by assumption) ?_
        simp only [Act.put, List.setIfInBounds_toArray, List.set_cons_zero, List.set_cons_succ]
        refine skip_op 8 rfl (by kernel_rfl) (by kernel_rfl) (by kernel_rfl) (fun _ _ _ h => h) (by rfl) (by assumption) ?_
        simp only [Act.put, List.setIfInBounds_toArray, List.set_cons_zero, List.set_cons_succ]
        refine skip_op 9 rfl (by kernel_rfl) (by kernel_rfl) (by kernel_rfl) (fun _ _ _ h => h) (by rfl) (by assumption) ?_
        simp only [Act.put, List.setIfInBounds_toArray, List.set_cons_zero, List.set_cons_succ]
        refine skip_op 10 rfl (by kernel_rfl) (by kernel_rfl) (by kernel_rfl) (fun _ _ _ h => h) (by rfl) (by assumption) ?_
        simp only [Act.put, List.setIfInBounds_toArray, List.set_cons_zero, List.set_cons_succ]
        refine skip_op 11 rfl (by kernel_rfl) (by kernel_rfl) (by kernel_rfl) (fun _ _ _ h => h) (by rfl) (by assumption) ?_
        simp only [Act.put, List.setIfInBounds_toArray, List.set_cons_zero, List.set_cons_succ]
        refine skip_op 12 rfl (by kernel_rfl) (by kernel_rfl) (by kernel_rfl) (fun _ _ _ h => h) (by rfl) (by assumption) ?_
        simp only [Act.put, List.setIfInBounds_toArray, List.set_cons_zero, List.set_cons_succ]
        refine skip_op 13 rfl (by kernel_rfl) (by kernel_rfl) (by kernel_rfl) (fun _ _ _ h => h) (by rfl) (by assumption) ?_
        simp only [Act.put, List.setIfInBounds_toArray, List.set_cons_zero, List.set_cons_succ]
        refine skip_op 14 rfl (by kernel_rfl) (by kernel_rfl) (by kernel_rfl) (fun _ _ _ h => h) (by rfl) (by assumption) ?_
        simp only [Act.put, List.setIfInBounds_toArray, List.set_cons_zero, List.set_cons_succ]
        refine skip_op 15 rfl (by kernel_rfl) (by kernel_rfl) (by kernel_rfl) (fun _ _ _ h => h) (by rfl) (by assumption) ?_
        simp only [Act.put, List.setIfInBounds_toArray, List.set_cons_zero, List.set_cons_succ]
        refine skip_op 16 rfl (by kernel_rfl) (by kernel_rfl) (by kernel_rfl) (fun _ _ _ h => h) (by rfl) (by assumption) ?_
        simp only [Act.put, List.setIfInBounds_toArray, List.set_cons_zero, List.set_cons_succ]
        refine skip_op 17 rfl (by kernel_rfl) (by kernel_rfl) (by kernel_rfl) (fun _ _ _ h => h) (by rfl) (by assumption) ?_
        simp only [Act.put, List.setIfInBounds_toArray, List.set_cons_zero, List.set_cons_succ]
        refine skip_op 18 rfl (by kernel_rfl) (by kernel_rfl) (by kernel_rfl) (fun _ _ _ h => h) (by rfl) (by assumption) ?_
        simp only [Act.put, List.setIfInBounds_toArray, List.set_cons_zero, List.set_cons_succ]
        refine take_op 19 rfl (by kernel_rfl) (by kernel_rfl) (by kernel_rfl) (fun _ _ _ h => h) (by rfl) (by (intro w hSw; (try dsimp only at hSw); go_simp; (try with_reducible rfl))) (by assumption) ?_
        simp only [Act.put, List.setIfInBounds_toArray, List.set_cons_zero, List.set_cons_succ]
        refine wpAnyH_done (by kernel_rfl) ?_ _
        go_wp2_with fail
        go_meet
        exact Lib.hid ⟨_, rfl, hHeld⟩
      have hA' : decide (y.start < st) = false := by simpa using hA
      by_cases hK : y.kind = 3
      · have hK' : (y.kind == 3) = true := by simpa using hK
        have hK2 : (y.kind != 3) = false := by simpa using hK
        clear hA hK hyb hsb
        refine wp_region_held_drew (S := fun w' => Own w.heap.size w [(w.heap.size + 1, winO y), (w.heap.size, boxM m (.slice a1 m.masters.length p1) (.slice a2 m.msgs.length p2) (.slice (some ⟨b, off, none⟩) m.wins.length p3))] w') (by kernel_rfl) hO.drew (fun hHeld => ?_)
        clear hO
        refine take_op 0 rfl (by kernel_rfl) (by kernel_rfl) (by kernel_rfl) (fun _ _ _ h => h) (by rfl) (by (intro w hSw; (try dsimp only at hSw); go_simp; (try with_reducible rfl))) (by assumption) ?_
        simp only [Act.put, List.setIfInBounds_toArray, List.set_cons_zero, List.set_cons_succ]
        refine take_op 1 rfl (by kernel_rfl) (by kernel_rfl) (by kernel_rfl) (fun _ _ _ h => h) (by rfl) (by (intro wz hSw; (obtain ⟨x0, x1, x2, x3, x4, x5⟩ := winO_c hSw.get0); go_simp; (try with_reducible rfl))) (by assumption) ?_
        simp only [Act.put, List.setIfInBounds_toArray, List.set_cons_zero, List.set_cons_succ]
        refine take_op 2 rfl (by kernel_rfl) (by kernel_rfl) (by kernel_rfl) (fun _ _ _ h => h) (by rfl) (by (intro wz hSw; (obtain ⟨c0, c1, c2, c3, c4, c5, c6, c7, c8, c9, c10⟩ := boxM_c hSw.get1); go_simp; (try with_reducible rfl))) (by assumption) ?_
        simp only [Act.put, List.setIfInBounds_toArray, List.set_cons_zero, List.set_cons_succ]
        refine at_op 3 rfl (by kernel_rfl) (by rfl) (fun K hK => ?_)
        go_simp
        refine (own_below hHeld (r_step (RM.out.keep hHeld.bel))).mono ?_
        rw [HST.out]
        rintro e w5 ⟨rfl, hO⟩
        refine hK.out _ _ ?_ (fun hHeld => ?_)
        · exact hO
        clear hK K
        try simp only [Act.put, List.setIfInBounds_toArray, List.set_cons_zero, List.set_cons_succ]
        refine take_op 4 rfl (by kernel_rfl) (by kernel_rfl) (by kernel_rfl) (fun _ _ _ h => h) (by rfl) (by (intro w hSw; (try dsimp only at hSw); go_simp; (try with_reducible rfl))) (by assumption) ?_
        simp only [Act.put, List.setIfInBounds_toArray, List.set_cons_zero, List.set_cons_succ]
        refine take_op 5 rfl (by kernel_rfl) (by kernel_rfl) (by kernel_rfl) (fun _ _ _ h => h) (by rfl) (by (intro w hSw; (try dsimp only at hSw); go_simp; (try with_reducible rfl))) (by assumption) ?_
        simp only [Act.put, List.setIfInBounds_toArray, List.set_cons_zero, List.set_cons_succ]
        refine take_op 6 rfl (by kernel_rfl) (by kernel_rfl) (by kernel_rfl) (fun _ _ _ h => h) (by rfl) (by (intro w hSw; (try dsimp only at hSw); go_simp; (try with_reducible rfl))) (by assumption) ?_
        simp only [Act.put, List.setIfInBounds_toArray, List.set_cons_zero, List.set_cons_succ]
        refine take_op 7 rfl (by kernel_rfl) (by kernel_rfl) (by kernel_rfl) (fun _ _ _ h => h) (by rfl) (by (intro wz hSw; (obtain ⟨x0, x1, x2, x3, x4, x5⟩ := winO_c hSw.get0); go_simp; (try with_reducible rfl))) (by assumption) ?_
        simp only [Act.put, List.setIfInBounds_toArray, List.set_cons_zero, List.set_cons_succ]
        refine take_op 8 rfl (by kernel_rfl) (by kernel_rfl) (by kernel_rfl) (fun _ _ _ h => h) (by rfl) (by (intro w hSw; (try dsimp only at hSw); go_simp; (try with_reducible rfl))) (by assumption) ?_
        simp only [Act.put, List.setIfInBounds_toArray, List.set_cons_zero, List.set_cons_succ]
        refine take_op 9 rfl (by kernel_rfl) (by kernel_rfl) (by kernel_rfl) (fun _ _ _ h => h) (by rfl) (by (intro w hSw; (try dsimp only at hSw); go_simp; (try with_reducible rfl))) (by assumption) ?_
        simp only [Act.put, List.setIfInBounds_toArray, List.set_cons_zero, List.set_cons_succ]
        refine skip_op 10 rfl (by kernel_rfl) (by kernel_rfl) (by kernel_rfl) (fun _ _ _ h => h) (by rfl) (by assumption) ?_
        simp only [Act.put, List.setIfInBounds_toArray, List.set_cons_zero, List.set_cons_succ]
        refine skip_op 11 rfl (by kernel_rfl) (by kernel_rfl) (by kernel_rfl) (fun _ _ _ h => h) (by rfl) (by assumption) ?_
        simp only [Act.put, List.setIfInBounds_toArray, List.set_cons_zero, List.set_cons_succ]
        refine skip_op 12 rfl (by kernel_rfl) (by kernel_rfl) (by kernel_rfl) (fun _ _ _ h => h) (by rfl) (by assumption) ?_
        simp only [Act.put, List.setIfInBounds_toArray, List.set_cons_zero, List.set_cons_succ]
        refine skip_op 13 rfl (by kernel_rfl) (by kernel_rfl) (by kernel_rfl) (fun _ _ _ h => h) (by rfl) (by assumption) ?_
        simp only [Act.put, List.setIfInBounds_toArray, List.set_cons_zero, List.set_cons_succ]
        refine skip_op 14 rfl (by kernel_rfl) (by kernel_rfl) (by kernel_rfl) (fun _ _ _ h => h) (by rfl) (by assumption) ?_
        simp only [Act.put, List.setIfInBounds_toArray, List.set_cons_zero, List.set_cons_succ]
        refine skip_op 15 rfl (by kernel_rfl) (by kernel_rfl) (by kernel_rfl) (fun _ _ _ h => h) (by rfl) (by assumption) ?_
        simp only [Act.put, List.setIfInBounds_toArray, List.set_cons_zero, List.set_cons_succ]
        refine skip_op 16 rfl (by kernel_rfl) (by kernel_rfl) (by kernel_rfl) (fun _ _ _ h => h) (by rfl) (by assumption) ?_
        simp only [Act.put, List.setIfInBounds_toArray, List.set_cons_zero, List.set_cons_succ]
        refine skip_op 17 rfl (by kernel_rfl) (by kernel_rfl) (by kernel_rfl) (fun _ _ _ h => h) (by rfl) (by assumption) ?_
        simp only [Act.put, List.setIfInBounds_toArray, List.set_cons_zero, List.set_cons_succ]
        refine take_op 18 rfl (by kernel_rfl) (by kernel_rfl) (by kernel_rfl) (fun _ _ _ h => h) (by rfl) (by (intro w hSw; (try dsimp only at hSw); go_simp; (try with_reducible rfl))) (by assumption) ?_
        simp only [Act.put, List.setIfInBounds_toArray, List.set_cons_zero, List.set_cons_succ]
        refine take_op 19 rfl (by kernel_rfl) (by kernel_rfl) (by kernel_rfl) (fun _ _ _ h => h) (by rfl) (by (intro w hSw; (try dsimp only at hSw); go_simp; (try with_reducible rfl))) (by assumption) ?_
        simp only [Act.put, List.setIfInBounds_toArray, List.set_cons_zero, List.set_cons_succ]
        refine wpAnyH_done (by kernel_rfl) ?_ _
        go_wp2_with fail
        go_meet
        exact Lib.hid ⟨_, rfl, hHeld⟩
      · have hK' : (y.kind == 3) = false := by simpa using hK
        have hK2 : (y.kind != 3) = true := by simpa using hK
        have hw : IntKind.i64.wrap (y.stop - y.start) = y.stop - y.start := by simp [IntKind.wrap, IntKind.signed, IntKind.bits]; omega
        obtain ⟨zc, hzc⟩ : ∃ z, decide (y.stop - y.start < st) = z := ⟨_, rfl⟩
        clear hA hK hyb hsb
        refine wp_region_held_drew (S := fun w' => Own w.heap.size w [(w.heap.size + 1, winO y), (w.heap.size, boxM m (.slice a1 m.masters.length p1) (.slice a2 m.msgs.length p2) (.slice (some ⟨b, off, none⟩) m.wins.length p3))] w') (by kernel_rfl) hO.drew (fun hHeld => ?_)
        clear hO
        refine take_op 0 rfl (by kernel_rfl) (by kernel_rfl) (by kernel_rfl) (fun _ _ _ h => h) (by rfl) (by (intro w hSw; (try dsimp only at hSw); go_simp; (try with_reducible rfl))) (by assumption) ?_
        simp only [Act.put, List.setIfInBounds_toArray, List.set_cons_zero, List.set_cons_succ]
        refine take_op 1 rfl (by kernel_rfl) (by kernel_rfl) (by kernel_rfl) (fun _ _ _ h => h) (by rfl) (by (intro wz hSw; (obtain ⟨x0, x1, x2, x3, x4, x5⟩ := winO_c hSw.get0); go_simp; (try with_reducible rfl))) (by assumption) ?_
        simp only [Act.put, List.setIfInBounds_toArray, List.set_cons_zero, List.set_cons_succ]
        refine take_op 2 rfl (by kernel_rfl) (by kernel_rfl) (by kernel_rfl) (fun _ _ _ h => h) (by rfl) (by (intro wz hSw; (obtain ⟨c0, c1, c2, c3, c4, c5, c6, c7, c8, c9, c10⟩ := boxM_c hSw.get1); go_simp; (try with_reducible rfl))) (by assumption) ?_
        simp only [Act.put, List.setIfInBounds_toArray, List.set_cons_zero, List.set_cons_succ]
        refine at_op 3 rfl (by kernel_rfl) (by rfl) (fun K hK => ?_)
        go_simp
        refine (own_below hHeld (r_step (RM.out.keep hHeld.bel))).mono ?_
        rw [HST.out]
        rintro e w5 ⟨rfl, hO⟩
        refine hK.out _ _ ?_ (fun hHeld => ?_)
        · exact hO
        clear hK K
        try simp only [Act.put, List.setIfInBounds_toArray, List.set_cons_zero, List.set_cons_succ]
        refine take_op 4 rfl (by kernel_rfl) (by kernel_rfl) (by kernel_rfl) (fun _ _ _ h => h) (by rfl) (by (intro w hSw; (try dsimp only at hSw); go_simp; (try with_reducible rfl))) (by assumption) ?_
        simp only [Act.put, List.setIfInBounds_toArray, List.set_cons_zero, List.set_cons_succ]
        refine take_op 5 rfl (by kernel_rfl) (by kernel_rfl) (by kernel_rfl) (fun _ _ _ h => h) (by rfl) (by (intro w hSw; (try dsimp only at hSw); go_simp; (try with_reducible rfl))) (by assumption) ?_
        simp only [Act.put, List.setIfInBounds_toArray, List.set_cons_zero, List.set_cons_succ]
        refine take_op 6 rfl (by kernel_rfl) (by kernel_rfl) (by kernel_rfl) (fun _ _ _ h => h) (by rfl) (by (intro w hSw; (try dsimp only at hSw); go_simp; (try with_reducible rfl))) (by assumption) ?_
        simp only [Act.put, List.setIfInBounds_toArray, List.set_cons_zero, List.set_cons_succ]
        refine take_op 7 rfl (by kernel_rfl) (by kernel_rfl) (by kernel_rfl) (fun _ _ _ h => h) (by rfl) (by (intro wz hSw; (obtain ⟨x0, x1, x2, x3, x4, x5⟩ := winO_c hSw.get0); go_simp; (try with_reducible rfl))) (by assumption) ?_
        simp only [Act.put, List.setIfInBounds_toArray, List.set_cons_zero, List.set_cons_succ]
        refine take_op 8 rfl (by kernel_rfl) (by kernel_rfl) (by kernel_rfl) (fun _ _ _ h => h) (by rfl) (by (intro w hSw; (try dsimp only at hSw); go_simp; (try with_reducible rfl))) (by assumption) ?_
        simp only [Act.put, List.setIfInBounds_toArray, List.set_cons_zero, List.set_cons_succ]
        refine take_op 9 rfl (by kernel_rfl) (by kernel_rfl) (by kernel_rfl) (fun _ _ _ h => h) (by rfl) (by (intro w hSw; (try dsimp only at hSw); go_simp; (try with_reducible rfl))) (by assumption) ?_
        simp only [Act.put, List.setIfInBounds_toArray, List.set_cons_zero, List.set_cons_succ]
        refine take_op 10 rfl (by kernel_rfl) (by kernel_rfl) (by kernel_rfl) (fun _ _ _ h => h) (by rfl) (by (intro w hSw; (try dsimp only at hSw); go_simp; (try with_reducible rfl))) (by assumption) ?_
        simp only [Act.put, List.setIfInBounds_toArray, List.set_cons_zero, List.set_cons_succ]
        refine take_op 11 rfl (by kernel_rfl) (by kernel_rfl) (by kernel_rfl) (fun _ _ _ h => h) (by rfl) (by (intro wz hSw; (obtain ⟨x0, x1, x2, x3, x4, x5⟩ := winO_c hSw.get0); go_simp; (try with_reducible rfl))) (by assumption) ?_
        simp only [Act.put, List.setIfInBounds_toArray, List.set_cons_zero, List.set_cons_succ]
        refine take_op 12 rfl (by kernel_rfl) (by kernel_rfl) (by kernel_rfl) (fun _ _ _ h => h) (by rfl) (by (intro w hSw; (try dsimp only at hSw); go_simp; (try with_reducible rfl))) (by assumption) ?_
        simp only [Act.put, List.setIfInBounds_toArray, List.set_cons_zero, List.set_cons_succ]
        refine take_op 13 rfl (by kernel_rfl) (by kernel_rfl) (by kernel_rfl) (fun _ _ _ h => h) (by rfl) (by (intro wz hSw; (obtain ⟨x0, x1, x2, x3, x4, x5⟩ := winO_c hSw.get0); go_simp; (try with_reducible rfl))) (by assumption) ?_
        simp only [Act.put, List.setIfInBounds_toArray, List.set_cons_zero, List.set_cons_succ]
        refine take_op 14 rfl (by kernel_rfl) (by kernel_rfl) (by kernel_rfl) (fun _ _ _ h => h) (by rfl) (by (intro w hSw; (try dsimp only at hSw); go_simp; (try with_reducible rfl))) (by assumption) ?_
        simp only [Act.put, List.setIfInBounds_toArray, List.set_cons_zero, List.set_cons_succ]
        refine take_op 15 rfl (by kernel_rfl) (by kernel_rfl) (by kernel_rfl) (fun _ _ _ h => h) (by rfl) (by (intro wz hSw; (obtain ⟨c0, c1, c2, c3, c4, c5, c6, c7, c8, c9, c10⟩ := boxM_c hSw.get1); go_simp; (try with_reducible rfl))) (by assumption) ?_
        simp only [Act.put, List.setIfInBounds_toArray, List.set_cons_zero, List.set_cons_succ]
        refine at_op 16 rfl (by kernel_rfl) (by rfl) (fun K hK => ?_)
        go_simp
        refine (own_below hHeld (r_step (RM.out.keep hHeld.bel))).mono ?_
        rw [HST.out]
        rintro e w6 ⟨rfl, hO⟩
        refine hK.out _ _ ?_ (fun hHeld => ?_)
        · exact hO
        clear hK K
        try simp only [Act.put, List.setIfInBounds_toArray, List.set_cons_zero, List.set_cons_succ]
        refine take_op 17 rfl (by kernel_rfl) (by kernel_rfl) (by kernel_rfl) (fun _ _ _ h => h) (by rfl) (by (intro w hSw; (try dsimp only at hSw); go_simp; (try with_reducible rfl))) (by assumption) ?_
        simp only [Act.put, List.setIfInBounds_toArray, List.set_cons_zero, List.set_cons_succ]
        refine take_op 18 rfl (by kernel_rfl) (by kernel_rfl) (by kernel_rfl) (fun _ _ _ h => h) (by rfl) (by (intro w hSw; (try dsimp only at hSw); go_simp; (try with_reducible rfl))) (by assumption) ?_
        simp only [Act.put, List.setIfInBounds_toArray, List.set_cons_zero, List.set_cons_succ]
        refine take_op 19 rfl (by kernel_rfl) (by kernel_rfl) (by kernel_rfl) (fun _ _ _ h => h) (by rfl) (by (intro w hSw; (try dsimp only at hSw); go_simp; (try with_reducible rfl))) (by assumption) ?_
        simp only [Act.put, List.setIfInBounds_toArray, List.set_cons_zero, List.set_cons_succ]
        refine wpAnyH_done (by kernel_rfl) ?_ _
        go_wp2_with fail
        go_meet
        exact Lib.hid ⟨_, rfl, hHeld⟩
    case rest =>
      clear hO
      obtain ⟨z, rfl, hO⟩ := hcut.out
      clear hcut
      cases z
      rotate_left
      · go_wp2
        go_ret
        exact ⟨144, by decide, rfl, hO.bel⟩
      go_wp2_with fail
      go_loopw [6] (fun v wr => ∃ k : Nat, v = .int .i64 k ∧ k ≤ i ∧ Own w.heap.size w [(w.heap.size + 1, winO y), (w.heap.size, boxM m (.slice a1 m.masters.length p1) (.slice a2 m.msgs.length p2) (.slice (some ⟨b, off, none⟩) m.wins.length p3))] wr) (fun v _ => i - (intOf v).toNat)
      case atStart => exact ⟨0, rfl, by omega, hO⟩
      case round =>
        clear hO
        obtain ⟨k, rfl, hk, hO⟩ := hrel
        obtain ⟨c0, c1, c2, c3, c4, c5, c6, c7, c8, c9, c10⟩ := boxM_c hO.get1
        have hml := lt_of_heap hO.get1
        by_cases hlt : k < i
        · have hlt' : (k : Int) < i := by omega
          go_wp2_with fail
          all_goals try (exfalso; omega)
          refine (r_meet (RM.out.keep hO.bel) HBB.out k i (by omega) hi).mono ?_
          rintro e w5 ⟨z, rfl, hB5⟩
          replace hO := hO.keep hB5
          cases z
          · go_wp2_with fail
            go_roundw
            case rel => exact ⟨k + 1, by go_num, by omega, hO⟩
            case measure => (simp [intOf]; try omega)
          · go_wp2
            go_ret
            exact ⟨143, by decide, rfl, hO.bel⟩
        · go_wp2
          all_goals try (exfalso; omega)
          go_ret
          exact ⟨0, by decide, rfl, hO.bel⟩
set_option maxRecDepth 100000 in
set_option maxHeartbeats 4000000 in
theorem r_check {w : World} {m : Mat} {s1 s2 s3 : Value} (h : RdM w m s1 s2 s3) :
    Calls Try.prog 25 #[matV m s1 s2 s3] w (SomeC m w) := by
  have hO := (Own.nil_ (Below.refl w.heap.size w) (Nat.le_refl _)).alloc (boxM m s1 s2 s3)
  obtain ⟨a1, p1, e1, r1⟩ := h.r1.shape
  obtain ⟨a2, p2, e2, r2⟩ := h.r2.shape
  obtain ⟨a3, p3, e3, r3⟩ := h.r3.shape
  subst e1 e2 e3
  have l1 := r1.len.2
  have l2 := r2.len.2
  have l3 := r3.len.2
  unfold maxLen at l1 l2 l3
  have RM := Lib.hid h
  have R1 := Lib.hid r1
  have R2 := Lib.hid r2
  have R3 := Lib.hid r3
  clear r1 r2 r3 h
  obtain ⟨c0, c1, c2, c3, c4, c5, c6, c7, c8, c9, c10⟩ := boxM_c hO.get0
  have hml := lt_of_heap hO.get0
  obtain ⟨z, hz⟩ : ∃ z, isB m = z := ⟨_, rfl⟩
  have HZ := Lib.hid hz
  clear hz
  obtain ⟨st, hst⟩ : ∃ st, stepE m = st := ⟨_, rfl⟩
  have HST := Lib.hid hst
  clear hst
  unfold matV
  go_enter Try.func25, Try.ntmps25
  go_wp2_with fail
  refine (own_below hO (rmat_is (RM.out.keep hO.bel))).mono ?_
  rw [HZ.out]
  rintro e w2 ⟨rfl, hO⟩
  clear c0 c1 c2 c3 c4 c5 c6 c7 c8 c9 c10 hml
  cases z
  · go_wp2
    go_ret2
    exact ⟨_, _, rfl, hO.bel, fun h => absurd h (by decide)⟩
  obtain ⟨c, hc⟩ : ∃ c, decide (m.length < st) = c := ⟨_, rfl⟩
  go_wp2_with fail
  refine wp_region_held_drew (S := fun w' => Own w.heap.size w [(w.heap.size, boxM m (.slice a1 m.masters.length p1) (.slice a2 m.msgs.length p2) (.slice a3 m.wins.length p3))] w') (by kernel_rfl) hO.drew (fun hHeld => ?_)
  clear hO
  refine take_op 0 rfl (by kernel_rfl) (by kernel_rfl) (by kernel_rfl) (fun _ _ _ h => h) (by rfl) (by (intro w hSw; (try dsimp only at hSw); go_simp; (try with_reducible rfl))) (by assumption) ?_
  simp only [Act.put, List.setIfInBounds_toArray, List.set_cons_zero, List.set_cons_succ]
  refine take_op 1 rfl (by kernel_rfl) (by kernel_rfl) (by kernel_rfl) (fun _ _ _ h => h) (by rfl) (by (intro wz hSw; (obtain ⟨c0, c1, c2, c3, c4, c5, c6, c7, c8, c9, c10⟩ := boxM_c hSw.get0); go_simp; (try with_reducible rfl))) (by assumption) ?_
  simp only [Act.put, List.setIfInBounds_toArray, List.set_cons_zero, List.set_cons_succ]
  refine take_op 2 rfl (by kernel_rfl) (by kernel_rfl) (by kernel_rfl) (fun _ _ _ h => h) (by rfl) (by (intro wz hSw; (obtain ⟨c0, c1, c2, c3, c4, c5, c6, c7, c8, c9, c10⟩ := boxM_c hSw.get0); go_simp; (try with_reducible rfl))) (by assumption) ?_
  simp only [Act.put, List.setIfInBounds_toArray, List.set_cons_zero, List.set_cons_succ]
  refine at_op 3 rfl (by kernel_rfl) (by rfl) (fun K hK => ?_)
  go_simp
  refine (own_below hHeld (r_step (RM.out.keep hHeld.bel))).mono ?_
  rw [HST.out]
  rintro e w3 ⟨rfl, hO⟩
  refine hK.out _ _ ?_ (fun hHeld => ?_)
  · exact hO
  clear hK K
  try simp only [Act.put, List.setIfInBounds_toArray, List.set_cons_zero, List.set_cons_succ]
  refine take_op 4 rfl (by kernel_rfl) (by kernel_rfl) (by kernel_rfl) (fun _ _ _ h => h) (by rfl) (by (intro w hSw; (try dsimp only at hSw); go_simp; (try with_reducible rfl))) (by assumption) ?_
  simp only [Act.put, List.setIfInBounds_toArray, List.set_cons_zero, List.set_cons_succ]
  refine wpAnyH_done (by kernel_rfl) ?_ _
  cases c
  rotate_left
  · go_wp2
    go_ret2
    exact ⟨_, _, rfl, hHeld.bel, fun h => absurd h (by decide)⟩
  clear hc
  go_wp2_with fail
  go_loopw [4] (fun v wr => ∃ k : Nat, v = .int .i64 k ∧ k ≤ m.masters.length ∧ Own w.heap.size w [(w.heap.size, boxM m (.slice a1 m.masters.length p1) (.slice a2 m.msgs.length p2) (.slice a3 m.wins.length p3))] wr) (fun v _ => m.masters.length - (intOf v).toNat)
  case atStart => exact ⟨0, rfl, by omega, hHeld⟩
  case round =>
    clear hHeld
    obtain ⟨k, rfl, hk, hO⟩ := hrel
    obtain ⟨c0, c1, c2, c3, c4, c5, c6, c7, c8, c9, c10⟩ := boxM_c hO.get0
    have hml := lt_of_heap hO.get0
    by_cases hlt : k < m.masters.length
    · have hlt' : (k : Int) < m.masters.length := by omega
      obtain ⟨y, b, off, hy, hm, rfl, hbb, hcc⟩ := (R1.out.keep hO.bel).at_ k hlt
      have e0 := hcc 0 _ rfl
      simp only [Nat.mul_one, Nat.add_zero] at e0
      clear hcc hy hm
      obtain ⟨z, hz⟩ : ∃ z, decide (m.nodes ≤ y) = z := ⟨_, rfl⟩
      go_wp2_with fail
      go_quiet (fail)
      cases z
      · go_wp2_with fail
        go_roundw
        case rel => exact ⟨k + 1, by go_num, by omega, hO.drewN _⟩
        case measure => (simp [intOf]; try omega)
      · go_wp2
        go_ret2
        exact ⟨_, _, rfl, hO.bel.trans (drewN_below _), fun h => absurd h (by decide)⟩
    go_wp2_with fail
    all_goals try (exfalso; omega)
    clear c0 c1 c2 c3 c4 c5 c6 c7 c8 c9 c10 hml hlt hk
    go_loopw [5] (fun v wr => ∃ k : Nat, v = .int .i64 k ∧ k ≤ m.msgs.length ∧ Own w.heap.size w [(w.heap.size, boxM m (.slice a1 m.masters.length p1) (.slice a2 m.msgs.length p2) (.slice a3 m.wins.length p3))] wr) (fun v _ => m.msgs.length - (intOf v).toNat)
    case atStart => exact ⟨0, rfl, by omega, hO⟩
    case round =>
      clear hO
      obtain ⟨k, rfl, hk, hO⟩ := hrel
      obtain ⟨c0, c1, c2, c3, c4, c5, c6, c7, c8, c9, c10⟩ := boxM_c hO.get0
      have hml := lt_of_heap hO.get0
      by_cases hlt : k < m.msgs.length
      · have hlt' : (k : Int) < m.msgs.length := by omega
        obtain ⟨y, b, off, hy, hm, rfl, hbb, hcc⟩ := (R2.out.keep hO.bel).at_ k hlt
        have e1 := hcc 1 _ rfl
        simp only [Nat.add_zero, ← Nat.add_assoc] at e1
        clear hcc hy hm
        obtain ⟨z, hz⟩ : ∃ z, decide (m.nodes ≤ y.owner) = z := ⟨_, rfl⟩
        go_wp2_with fail
        go_quiet (fail)
        cases z
        · go_wp2_with fail
          go_roundw
          case rel => exact ⟨k + 1, by go_num, by omega, hO.drewN _⟩
          case measure => (simp [intOf]; try omega)
        · go_wp2
          go_ret2
          exact ⟨_, _, rfl, hO.bel.trans (drewN_below _), fun h => absurd h (by decide)⟩
      go_wp2_with fail
      all_goals try (exfalso; omega)
      refine (r_twice (RM.out.keep hO.bel)).mono ?_
      rintro e w4 ⟨i0, e0, rfl, hB4, hF⟩
      replace hO := hO.keep hB4
      clear c0 c1 c2 c3 c4 c5 c6 c7 c8 c9 c10 hml hlt hk hB4
      have HFR := Lib.hid hF
      clear hF
      by_cases he : e0 = 0
      rotate_left
      · have he' : (e0 == 0) = false := by simpa using he
        have he2 : (e0 != 0) = true := by simpa using he
        go_wp2
        go_ret2
        exact ⟨_, _, rfl, hO.bel, fun h => absurd h he⟩
      subst he
      have HFR2 := Lib.hid (HFR.out rfl)
      clear HFR
      go_wp2_with fail
      go_loopw [8] (fun v wr => ∃ k : Nat, v = .int .i64 k ∧ k ≤ m.wins.length ∧ Own w.heap.size w [(w.heap.size, boxM m (.slice a1 m.masters.length p1) (.slice a2 m.msgs.length p2) (.slice a3 m.wins.length p3))] wr) (fun v _ => m.wins.length - (intOf v).toNat)
      case atStart => exact ⟨0, rfl, by omega, hO⟩
      case round =>
        clear hO
        obtain ⟨k, rfl, hk, hO⟩ := hrel
        obtain ⟨c0, c1, c2, c3, c4, c5, c6, c7, c8, c9, c10⟩ := boxM_c hO.get0
        have hml := lt_of_heap hO.get0
        by_cases hlt : k < m.wins.length
        · have hlt' : (k : Int) < m.wins.length := by omega
          go_wp2_with fail
          all_goals try (exfalso; omega)
          refine (r_window (RM.out.keep hO.bel) HZ.out k hlt).mono ?_
          rintro e w5 ⟨r, hr, rfl, hB5⟩
          replace hO := hO.keep hB5
          clear hB5
          by_cases hr0 : r = 0
          · subst hr0
            go_wp2_with fail
            go_roundw
            case rel => exact ⟨k + 1, by go_num, by omega, hO⟩
            case measure => (simp [intOf]; try omega)
          · have hr' : (r == 0) = false := by simpa using hr0
            have hr2 : (r != 0) = true := by simpa using hr0
            go_wp2
            go_ret2
            exact ⟨_, _, rfl, hO.bel, fun h => absurd h hr0⟩
        · go_wp2
          all_goals try (exfalso; omega)
          go_ret2
          exact ⟨_, _, rfl, hO.bel, fun _ => ⟨HZ.out, HFR2.out⟩⟩
end Go.Proofs.Ythkhlcigegbpfaa
