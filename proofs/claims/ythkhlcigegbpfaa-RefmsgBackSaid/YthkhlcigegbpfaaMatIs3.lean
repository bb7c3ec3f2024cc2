/- matrix.Is. -/
import Derived.Test.YthkhlcigegbpfaaMatIs2
namespace Go.Proofs.Ythkhlcigegbpfaa
set_option linter.unusedVariables false
set_option linter.unusedSimpArgs false
open Go.ChangeShapes Go.WideShapes Go.ChangeAt Go.RowKit Go.Deep

set_option maxHeartbeats 2000000 in
theorem mat_is {w : World} {m : Mat} {s1 s2 s3 : Value} (h : RdM w m s1 s2 s3) : Calls Try.prog 32 #[matV m s1 s2 s3] w fun e w' => e = .returned (.bool (isB m)) ∧ Below w.heap.size w w' := by
  have hO := (Own.nil_ (Below.refl w.heap.size w) (Nat.le_refl _)).alloc (boxM m s1 s2 s3)
  obtain ⟨a1, p1, e1, r1⟩ := h.r1.shape
  obtain ⟨a2, p2, e2, r2⟩ := h.r2.shape
  obtain ⟨a3, p3, e3, r3⟩ := h.r3.shape
  have hok := h.ok
  subst e1 e2 e3
  have hH := mat_head m (.slice a1 m.masters.length p1) (.slice a2 m.msgs.length p2) (.slice a3 m.wins.length p3) hok.ref (w.alloc (boxM m (.slice a1 m.masters.length p1) (.slice a2 m.msgs.length p2) (.slice a3 m.wins.length p3)))
  have HH := Lib.hid hH
  clear hH h
  have HO := Lib.hid hok
  clear hok
  have l1 := r1.len.2
  have l2 := r2.len.2
  have l3 := r3.len.2
  unfold maxLen at l1 l2 l3
  have R1 := Lib.hid r1
  have R2 := Lib.hid r2
  have R3 := Lib.hid r3
  clear r1 r2 r3
  unfold matV
  have c0 := cell_of hO.get0 0
  have c1 := cell_of hO.get0 1
  have c2 := cell_of hO.get0 2
  have c3 := cell_of hO.get0 3
  have c4 := cell_of hO.get0 4
  have c5 := cell_of hO.get0 5
  have c6 := cell_of hO.get0 6
  have c7 := cell_of hO.get0 7
  have c8 := cell_of hO.get0 8
  have c9 := cell_of hO.get0 9
  have c10 := cell_of hO.get0 10
  have cf0 := free_of hO.get0 0
  have cf1 := free_of hO.get0 1
  have cf2 := free_of hO.get0 2
  have cf3 := free_of hO.get0 3
  have cf4 := free_of hO.get0 4
  have cf5 := free_of hO.get0 5
  have cf6 := free_of hO.get0 6
  have cf7 := free_of hO.get0 7
  have cf8 := free_of hO.get0 8
  have cf9 := free_of hO.get0 9
  have cf10 := free_of hO.get0 10
  have clt := lt_of_heap hO.get0
  simp at c0 c1 c2 c3 c4 c5 c6 c7 c8 c9 c10
  go_enter Try.func32, Try.ntmps32
  go_wp2_with fail
  refine (own_below hO HH.out).mono ?_
  rintro e w1 ⟨rfl, hO⟩
  clear HH c0 c1 c2 c3 c4 c5 c6 c7 c8 c9 c10 cf0 cf1 cf2 cf3 cf4 cf5 cf6 cf7 cf8 cf9 cf10 clt
  have d8 := cell_of hO.get0 8
  have d9 := cell_of hO.get0 9
  have d10 := cell_of hO.get0 10
  simp [boxM] at d8 d9 d10
  have hne : w.heap.size < w1.heap.size := lt_of_heap hO.get0
  by_cases hh : headB m = true
  · go_wp2_with (go_at_call 61; refine (mat_within _ _ _ _).mono ?_; rintro e w' ⟨rfl, rfl⟩)
    rotate_right
    · replace hO := hO.alloc (.cells #[.func (.func 62) #[] #[]] 80)
      refine (con_whos (R1.out.keep hO.bel)).mono ?_
      rintro e w2 ⟨rfl, rfl⟩
      have HO2 := hO
      clear d8 d9 d10 hne
      have d9 := cell_of hO.get1 9
      simp at d9
      by_cases ha : m.masters.all whoB = true
      · rw [ha]
        go_wp2_with fail
        refine (own_below hO (con_msgs (R2.out.keep hO.bel) HO.out.msgs ((cell_of hO.get0 0).trans rfl))).mono ?_
        rintro e w3 ⟨rfl, hO⟩
        clear d9
        have d10 := cell_of hO.get1 10
        simp at d10
        by_cases hb : m.msgs.all msgB = true
        · rw [hb]
          go_wp2_with fail
          refine (own_below hO (con_wins (R3.out.keep hO.bel) HO.out.wins hO.get1)).mono ?_
          rintro e w4 ⟨rfl, hO⟩
          go_wp2_with fail
          go_ret
          refine ⟨ret_bool ?_, hO.bel⟩
          clear d10 hO HO2
          simp [isB, *]
          omega
        · replace hb : m.msgs.all msgB = false := by simpa using hb
          rw [hb]
          go_wp2_with fail
          go_ret
          refine ⟨ret_bool ?_, hO.bel⟩
          clear d10 hO HO2
          simp [isB, *]
      · replace ha : m.masters.all whoB = false := by simpa using ha
        rw [ha]
        go_wp2_with fail
        go_ret
        refine ⟨ret_bool ?_, hO.bel⟩
        clear d9 hO HO2
        simp [isB, *]
    all_goals
      go_ret
      refine ⟨ret_bool ?_, hO.bel⟩
      first
        | (simp [isB, *]; done)
        | (simp [isB, *]; omega)
        | (simp_all [isB]; omega)
  · replace hh : headB m = false := by simpa using hh
    go_wp2
    go_ret
    exact ⟨ret_bool (by simp [isB, hh]), hO.bel⟩
end Go.Proofs.Ythkhlcigegbpfaa
