/- MatrixTells: of every two matrices whether they are any, the same; of frames, messages, nodes where they are. No conditions. -/
import Derived.Test.YthkhlcigegbpfaaMatKnown
import Derived.Test.YthkhlcigegbpfaaRefSame
import Derived.ChangeMaps5
namespace Go.Proofs.Ythkhlcigegbpfaa
set_option linter.unusedVariables false
set_option linter.unusedSimpArgs false
open Go.ChangeShapes Go.WideShapes Go.ChangeAt Go.RowKit Go.Deep

theorem eqL_refl {α : Type} {p : α → α → Bool} (hp : ∀ x, p x x = true) (l : List α) : eqL p l l = true := by
  unfold eqL
  simp only [decide_true, Bool.true_and, List.all_eq_true]
  intro z hz
  obtain ⟨i, hi⟩ := List.getElem?_of_mem hz
  rw [List.getElem?_zip_eq_some] at hi
  have := hi.1.symm.trans hi.2
  cases z
  simp only [Option.some.injEq] at this
  subst this
  exact hp _
theorem sameB_refl (m : Mat) : sameB m m = true := by
  unfold sameB headEq
  simp [eqL_refl (p := fun (x y : Int) => x == y) (by simp), eqL_refl (p := msgEq) (by simp [msgEq]), eqL_refl (p := winEq) (by simp [winEq])]
theorem newL_shape {α : Type} {C : α → List Value} {t : TypeId} {base : Nat} {w : World} {v : Value} {l : List α} (h : NewL C t base w v l) : ∃ a n c, v = .slice a n c := by
  rcases h with ⟨rfl, _⟩ | ⟨g, rfl, _⟩
  · exact ⟨_, _, _, rfl⟩
  · exact ⟨_, _, _, rfl⟩

set_option maxRecDepth 100000 in
set_option maxHeartbeats 8000000 in
theorem MatrixTells_core (a b : Mat) (s1 s2 s3 t1 t2 t3 : Value) (f : Fr) (msg who : Int) (data : ByteArray) (hms : I64 msg) (hwh : I64 who) (hd : data.size ≤ maxLen) (w : World) (ha : RdM w a s1 s2 s3) (hbm : RdM w b t1 t2 t3) :
    Holds 6 #[matV a s1 s2 s3, matV b t1 t2 t3, frV f, .int .i64 msg, .int .i64 who, .string data] w := by
  have hp := held30
  have hg := guard30
  obtain ⟨fe, fi, fr, fd⟩ := f
  have hO := (((Own.nil_ (Below.refl w.heap.size w) (Nat.le_refl _)).alloc (boxM a s1 s2 s3)).alloc (boxM b t1 t2 t3)).alloc (boxF ⟨fe, fi, fr, fd⟩)
  obtain ⟨a1, p1, e1, _⟩ := ha.r1.shape
  obtain ⟨a2, p2, e2, _⟩ := ha.r2.shape
  obtain ⟨a3, p3, e3, _⟩ := ha.r3.shape
  obtain ⟨b1, q1, f1, _⟩ := hbm.r1.shape
  obtain ⟨b2, q2, f2, _⟩ := hbm.r2.shape
  obtain ⟨b3, q3, f3, _⟩ := hbm.r3.shape
  subst e1 e2 e3 f1 f2 f3
  have hsz : ∀ o : Obj, (w.alloc o).heap.size = w.heap.size + 1 := fun o => by simp
  have hsz2 : ∀ o o' : Obj, ((w.alloc o).alloc o').heap.size = w.heap.size + 2 := fun o o' => by simp
  rw [hsz, hsz2] at hO
  clear hsz hsz2
  have RA := Lib.hid ha
  have RB := Lib.hid hbm
  clear ha hbm
  obtain ⟨c0, c1, c2, c3, c4, c5, c6, c7, c8, c9, c10⟩ := boxM_c (hO.all w.heap.size (boxM a (.slice a1 a.masters.length p1) (.slice a2 a.msgs.length p2) (.slice a3 a.wins.length p3)) (by simp)).2
  obtain ⟨d0, d1, d2, d3, d4, d5, d6, d7, d8, d9, d10⟩ := boxM_c (hO.all (w.heap.size + 1) (boxM b (.slice b1 b.masters.length q1) (.slice b2 b.msgs.length q2) (.slice b3 b.wins.length q3)) (by simp)).2
  have hml : w.heap.size < w.heap.size + 1 := by omega
  unfold Holds matV frV
  go_enter Try.func6, Try.ntmps6
  go_wp2_with fail
  refine (own_below hO (known12 _)).mono ?_
  rintro e w1 ⟨rfl, hO⟩
  clear c0 c1 c2 c3 c4 c5 c6 c7 c8 c9 c10
  clear d0 d1 d2 d3 d4 d5 d6 d7 d8 d9 d10
  clear hml
  obtain ⟨c0, c1, c2, c3, c4, c5, c6, c7, c8, c9, c10⟩ := boxM_c (hO.all w.heap.size (boxM a (.slice a1 a.masters.length p1) (.slice a2 a.msgs.length p2) (.slice a3 a.wins.length p3)) (by simp)).2
  have hml := lt_of_heap (hO.all w.heap.size (boxM a (.slice a1 a.masters.length p1) (.slice a2 a.msgs.length p2) (.slice a3 a.wins.length p3)) (by simp)).2
  go_wp2_with fail
  refine (own_below hO (few_any (RA.out.keep hO.bel))).mono ?_
  rintro e w2 ⟨rfl, hO⟩
  clear c0 c1 c2 c3 c4 c5 c6 c7 c8 c9 c10
  clear hml
  by_cases hf : a.masters.length ≤ 10 ∧ a.msgs.length ≤ 20 ∧ a.wins.length ≤ 25
  · rw [decide_eq_true hf]
    obtain ⟨d0, d1, d2, d3, d4, d5, d6, d7, d8, d9, d10⟩ := boxM_c (hO.all (w.heap.size + 1) (boxM b (.slice b1 b.masters.length q1) (.slice b2 b.msgs.length q2) (.slice b3 b.wins.length q3)) (by simp)).2
    go_wp2_with fail
    refine (own_below hO (few_any (RB.out.keep hO.bel))).mono ?_
    rintro e w3 ⟨rfl, hO⟩
    clear d0 d1 d2 d3 d4 d5 d6 d7 d8 d9 d10
    obtain ⟨z, hz⟩ : ∃ z, decide (b.masters.length ≤ 10 ∧ b.msgs.length ≤ 20 ∧ b.wins.length ≤ 25) = z := ⟨_, rfl⟩
    rw [hz]
    clear hz
    cases z
    · go_wp2
      all_goals first | (exfalso; omega) | (go_ret; exact ⟨rfl, hO.bel⟩)
    rcases Nat.lt_or_ge 20 data.size with h20 | h20
    · go_wp2
      all_goals first | (exfalso; omega) | (go_ret; exact ⟨rfl, hO.bel⟩)
    obtain ⟨c0, c1, c2, c3, c4, c5, c6, c7, c8, c9, c10⟩ := boxM_c (hO.all w.heap.size (boxM a (.slice a1 a.masters.length p1) (.slice a2 a.msgs.length p2) (.slice a3 a.wins.length p3)) (by simp)).2
    go_wp2_with fail
    all_goals try (exfalso; omega)
    refine (own_below hO (mat_frame (RA.out.keep hO.bel) msg hms data hd)).mono ?_
    rintro e w5 ⟨rfl, hO⟩
    simp only [frV]
    clear c0 c1 c2 c3 c4 c5 c6 c7 c8 c9 c10
    obtain ⟨c0, c1, c2, c3, c4, c5, c6, c7, c8, c9, c10⟩ := boxM_c (hO.all w.heap.size (boxM a (.slice a1 a.masters.length p1) (.slice a2 a.msgs.length p2) (.slice a3 a.wins.length p3)) (by simp)).2
    have hml := lt_of_heap (hO.all w.heap.size (boxM a (.slice a1 a.masters.length p1) (.slice a2 a.msgs.length p2) (.slice a3 a.wins.length p3)) (by simp)).2
    go_wp2_with fail
    replace hO := hO.alloc (boxF (frameE a msg data).1)
    refine (own_below hO (rmat_frame (RA.out.keep hO.bel) msg hms data hd)).mono ?_
    rintro e w6 ⟨rfl, hO⟩
    simp only [frV]
    clear c0 c1 c2 c3 c4 c5 c6 c7 c8 c9 c10
    clear hml
    obtain ⟨c0, c1, c2, c3, c4, c5, c6, c7, c8, c9, c10⟩ := boxM_c (hO.all w.heap.size (boxM a (.slice a1 a.masters.length p1) (.slice a2 a.msgs.length p2) (.slice a3 a.wins.length p3)) (by simp)).2
    have hml := lt_of_heap (hO.all w.heap.size (boxM a (.slice a1 a.masters.length p1) (.slice a2 a.msgs.length p2) (.slice a3 a.wins.length p3)) (by simp)).2
    go_wp2_with fail
    replace hO := hO.alloc (boxF (frameE a msg data).1)
    refine (mat_copy (RA.out.keep hO.bel) ⟨by omega, by omega, by omega⟩).mono ?_
    rintro e w7 ⟨v1, v2, v3, rfl, hB, hN⟩
    replace hO := hO.keep hB
    obtain ⟨x1, n1, y1, e1⟩ := newL_shape hN.n1
    obtain ⟨x2, n2, y2, e2⟩ := newL_shape hN.n2
    obtain ⟨x3, n3, y3, e3⟩ := newL_shape hN.n3
    subst e1 e2 e3
    have RC := Lib.hid (hN.rd ⟨by omega, by omega, by omega⟩ RA.out.ok)
    clear hN hB hml
    clear c0 c1 c2 c3 c4 c5 c6 c7 c8 c9 c10
    simp only [matV]
    go_wp2_with fail
    replace hO := hO.alloc (boxM a (.slice x1 n1 y1) (.slice x2 n2 y2) (.slice x3 n3 y3))
    have hBc : Below w7.heap.size w7 (w7.alloc (boxM a (.slice x1 n1 y1) (.slice x2 n2 y2) (.slice x3 n3 y3))) := (Below.refl _ _).alloc (Nat.le_refl _) _
    have LS := Lib.hid (sameB_refl a)
    obtain ⟨zi, hzi⟩ : ∃ z, isB a = z := ⟨_, rfl⟩
    have ZI := Lib.hid hzi
    obtain ⟨zs, hzs⟩ : ∃ z, sameB a b = z := ⟨_, rfl⟩
    have ZS := Lib.hid hzs
    obtain ⟨zf, hzf⟩ : ∃ z, findI a ⟨fe, fi, fr, fd⟩ = z := ⟨_, rfl⟩
    have ZF := Lib.hid hzf
    obtain ⟨zr, hzr⟩ : ∃ z, rankI a who = z := ⟨_, rfl⟩
    have ZR := Lib.hid hzr
    clear hzi hzs hzf hzr
    refine wp_region_held_drew (S := fun w' => Own w.heap.size w [(w7.heap.size, boxM a (.slice x1 n1 y1) (.slice x2 n2 y2) (.slice x3 n3 y3)), (w6.heap.size, boxF (frameE a msg data).1), (w5.heap.size, boxF (frameE a msg data).1), (w.heap.size + 2, boxF ⟨fe, fi, fr, fd⟩), (w.heap.size + 1, boxM b (.slice b1 b.masters.length q1) (.slice b2 b.msgs.length q2) (.slice b3 b.wins.length q3)), (w.heap.size, boxM a (.slice a1 a.masters.length p1) (.slice a2 a.msgs.length p2) (.slice a3 a.wins.length p3))] w' ∧ Below w7.heap.size w7 w') (by kernel_rfl) ⟨hO.drew, hBc.drew⟩ (fun hHeld => ?_)
    clear hO hBc
    refine take_op 0 rfl (by kernel_rfl) (by kernel_rfl) (by kernel_rfl) (fun _ _ _ h => h) (by rfl) (by (intro wz hSw; (obtain ⟨c0, c1, c2, c3, c4, c5, c6, c7, c8, c9, c10⟩ := boxM_c (hSw.1.all w.heap.size (boxM a (.slice a1 a.masters.length p1) (.slice a2 a.msgs.length p2) (.slice a3 a.wins.length p3)) (by simp)).2); go_simp; (try with_reducible rfl))) (by assumption) ?_
    simp only [Act.put, List.setIfInBounds_toArray, List.set_cons_zero, List.set_cons_succ]
    refine take_op 2 rfl (by kernel_rfl) (by kernel_rfl) (by kernel_rfl) (fun _ _ _ h => h) (by rfl) (by (intro wz hSw; (obtain ⟨c0, c1, c2, c3, c4, c5, c6, c7, c8, c9, c10⟩ := boxM_c (hSw.1.all w.heap.size (boxM a (.slice a1 a.masters.length p1) (.slice a2 a.msgs.length p2) (.slice a3 a.wins.length p3)) (by simp)).2); go_simp; (try with_reducible rfl))) (by assumption) ?_
    simp only [Act.put, List.setIfInBounds_toArray, List.set_cons_zero, List.set_cons_succ]
    refine at_op 1 rfl (by kernel_rfl) (by rfl) (fun K hK => ?_)
    go_simp
    refine (mat_is (RA.out.keep hHeld.1.bel)).mono ?_
    rintro e wx ⟨rfl, hB⟩
    have hO := And.intro (hHeld.1.keep hB) (hHeld.2.trans (hB.mono hHeld.2.size))
    clear hB
    rw [ZI.out]
    refine hK.out _ _ ?_ (fun hHeld => ?_)
    · exact hO
    clear hK K
    try simp only [Act.put, List.setIfInBounds_toArray, List.set_cons_zero, List.set_cons_succ]
    refine at_op 3 rfl (by kernel_rfl) (by rfl) (fun K hK => ?_)
    go_simp
    refine (rmat_is (RA.out.keep hHeld.1.bel)).mono ?_
    rintro e wx ⟨rfl, hB⟩
    have hO := And.intro (hHeld.1.keep hB) (hHeld.2.trans (hB.mono hHeld.2.size))
    clear hB
    rw [ZI.out]
    refine hK.out _ _ ?_ (fun hHeld => ?_)
    · exact hO
    clear hK K
    try simp only [Act.put, List.setIfInBounds_toArray, List.set_cons_zero, List.set_cons_succ]
    refine take_op 4 rfl (by kernel_rfl) (by kernel_rfl) (by kernel_rfl) (fun _ _ _ h => h) (by rfl) (by (intro w hSw; (try dsimp only at hSw); go_simp; (try with_reducible rfl))) (by assumption) ?_
    simp only [Act.put, List.setIfInBounds_toArray, List.set_cons_zero, List.set_cons_succ]
    refine take_op 5 rfl (by kernel_rfl) (by kernel_rfl) (by kernel_rfl) (fun _ _ _ h => h) (by rfl) (by (intro w hSw; (try dsimp only at hSw); go_simp; (try with_reducible rfl))) (by assumption) ?_
    simp only [Act.put, List.setIfInBounds_toArray, List.set_cons_zero, List.set_cons_succ]
    refine take_op 6 rfl (by kernel_rfl) (by kernel_rfl) (by kernel_rfl) (fun _ _ _ h => h) (by rfl) (by (intro wz hSw; (obtain ⟨c0, c1, c2, c3, c4, c5, c6, c7, c8, c9, c10⟩ := boxM_c (hSw.1.all w.heap.size (boxM a (.slice a1 a.masters.length p1) (.slice a2 a.msgs.length p2) (.slice a3 a.wins.length p3)) (by simp)).2); go_simp; (try with_reducible rfl))) (by assumption) ?_
    simp only [Act.put, List.setIfInBounds_toArray, List.set_cons_zero, List.set_cons_succ]
    refine take_op 7 rfl (by kernel_rfl) (by kernel_rfl) (by kernel_rfl) (fun _ _ _ h => h) (by rfl) (by (intro wz hSw; (obtain ⟨c0, c1, c2, c3, c4, c5, c6, c7, c8, c9, c10⟩ := boxM_c (hSw.1.all (w.heap.size + 1) (boxM b (.slice b1 b.masters.length q1) (.slice b2 b.msgs.length q2) (.slice b3 b.wins.length q3)) (by simp)).2); go_simp; (try with_reducible rfl))) (by assumption) ?_
    simp only [Act.put, List.setIfInBounds_toArray, List.set_cons_zero, List.set_cons_succ]
    refine take_op 9 rfl (by kernel_rfl) (by kernel_rfl) (by kernel_rfl) (fun _ _ _ h => h) (by rfl) (by (intro wz hSw; (obtain ⟨c0, c1, c2, c3, c4, c5, c6, c7, c8, c9, c10⟩ := boxM_c (hSw.1.all w.heap.size (boxM a (.slice a1 a.masters.length p1) (.slice a2 a.msgs.length p2) (.slice a3 a.wins.length p3)) (by simp)).2); go_simp; (try with_reducible rfl))) (by assumption) ?_
    simp only [Act.put, List.setIfInBounds_toArray, List.set_cons_zero, List.set_cons_succ]
    refine take_op 10 rfl (by kernel_rfl) (by kernel_rfl) (by kernel_rfl) (fun _ _ _ h => h) (by rfl) (by (intro wz hSw; (obtain ⟨c0, c1, c2, c3, c4, c5, c6, c7, c8, c9, c10⟩ := boxM_c (hSw.1.all (w.heap.size + 1) (boxM b (.slice b1 b.masters.length q1) (.slice b2 b.msgs.length q2) (.slice b3 b.wins.length q3)) (by simp)).2); go_simp; (try with_reducible rfl))) (by assumption) ?_
    simp only [Act.put, List.setIfInBounds_toArray, List.set_cons_zero, List.set_cons_succ]
    refine at_op 8 rfl (by kernel_rfl) (by rfl) (fun K hK => ?_)
    go_simp
    refine (mat_same (RA.out.keep hHeld.1.bel) (RB.out.keep hHeld.1.bel)).mono ?_
    rintro e wx ⟨rfl, hB⟩
    have hO := And.intro (hHeld.1.keep hB) (hHeld.2.trans (hB.mono hHeld.2.size))
    clear hB
    rw [ZS.out]
    refine hK.out _ _ ?_ (fun hHeld => ?_)
    · exact hO
    clear hK K
    try simp only [Act.put, List.setIfInBounds_toArray, List.set_cons_zero, List.set_cons_succ]
    refine at_op 11 rfl (by kernel_rfl) (by rfl) (fun K hK => ?_)
    go_simp
    refine (rmat_same (RA.out.keep hHeld.1.bel) (RB.out.keep hHeld.1.bel)).mono ?_
    rintro e wx ⟨rfl, hB⟩
    have hO := And.intro (hHeld.1.keep hB) (hHeld.2.trans (hB.mono hHeld.2.size))
    clear hB
    rw [ZS.out]
    refine hK.out _ _ ?_ (fun hHeld => ?_)
    · exact hO
    clear hK K
    try simp only [Act.put, List.setIfInBounds_toArray, List.set_cons_zero, List.set_cons_succ]
    refine take_op 12 rfl (by kernel_rfl) (by kernel_rfl) (by kernel_rfl) (fun _ _ _ h => h) (by rfl) (by (intro w hSw; (try dsimp only at hSw); go_simp; (try with_reducible rfl))) (by assumption) ?_
    simp only [Act.put, List.setIfInBounds_toArray, List.set_cons_zero, List.set_cons_succ]
    refine take_op 13 rfl (by kernel_rfl) (by kernel_rfl) (by kernel_rfl) (fun _ _ _ h => h) (by rfl) (by (intro w hSw; (try dsimp only at hSw); go_simp; (try with_reducible rfl))) (by assumption) ?_
    simp only [Act.put, List.setIfInBounds_toArray, List.set_cons_zero, List.set_cons_succ]
    refine take_op 14 rfl (by kernel_rfl) (by kernel_rfl) (by kernel_rfl) (fun _ _ _ h => h) (by rfl) (by (intro w hSw; (try dsimp only at hSw); go_simp; (try with_reducible rfl))) (by assumption) ?_
    simp only [Act.put, List.setIfInBounds_toArray, List.set_cons_zero, List.set_cons_succ]
    refine take_op 15 rfl (by kernel_rfl) (by kernel_rfl) (by kernel_rfl) (fun _ _ _ h => h) (by rfl) (by (intro wz hSw; (obtain ⟨c0, c1, c2, c3, c4, c5, c6, c7, c8, c9, c10⟩ := boxM_c (hSw.1.all w.heap.size (boxM a (.slice a1 a.masters.length p1) (.slice a2 a.msgs.length p2) (.slice a3 a.wins.length p3)) (by simp)).2); go_simp; (try with_reducible rfl))) (by assumption) ?_
    simp only [Act.put, List.setIfInBounds_toArray, List.set_cons_zero, List.set_cons_succ]
    refine take_op 16 rfl (by kernel_rfl) (by kernel_rfl) (by kernel_rfl) (fun _ _ _ h => h) (by rfl) (by (intro wz hSw; (obtain ⟨g0, g1, g2, g3⟩ := boxF_c (hSw.1.all (w.heap.size + 2) (boxF ⟨fe, fi, fr, fd⟩) (by simp)).2; simp only at g0 g1 g2 g3); go_simp; (try with_reducible rfl))) (by assumption) ?_
    simp only [Act.put, List.setIfInBounds_toArray, List.set_cons_zero, List.set_cons_succ]
    refine take_op 18 rfl (by kernel_rfl) (by kernel_rfl) (by kernel_rfl) (fun _ _ _ h => h) (by rfl) (by (intro wz hSw; (obtain ⟨c0, c1, c2, c3, c4, c5, c6, c7, c8, c9, c10⟩ := boxM_c (hSw.1.all w.heap.size (boxM a (.slice a1 a.masters.length p1) (.slice a2 a.msgs.length p2) (.slice a3 a.wins.length p3)) (by simp)).2); go_simp; (try with_reducible rfl))) (by assumption) ?_
    simp only [Act.put, List.setIfInBounds_toArray, List.set_cons_zero, List.set_cons_succ]
    refine take_op 19 rfl (by kernel_rfl) (by kernel_rfl) (by kernel_rfl) (fun _ _ _ h => h) (by rfl) (by (intro wz hSw; (obtain ⟨g0, g1, g2, g3⟩ := boxF_c (hSw.1.all (w.heap.size + 2) (boxF ⟨fe, fi, fr, fd⟩) (by simp)).2; simp only at g0 g1 g2 g3); go_simp; (try with_reducible rfl))) (by assumption) ?_
    simp only [Act.put, List.setIfInBounds_toArray, List.set_cons_zero, List.set_cons_succ]
    refine at_op 17 rfl (by kernel_rfl) (by rfl) (fun K hK => ?_)
    go_simp
    refine (mat_find (RA.out.keep hHeld.1.bel) ⟨fe, fi, fr, fd⟩).mono ?_
    rintro e wx ⟨rfl, hB⟩
    have hO := And.intro (hHeld.1.keep hB) (hHeld.2.trans (hB.mono hHeld.2.size))
    clear hB
    rw [ZF.out]
    refine hK.out _ _ ?_ (fun hHeld => ?_)
    · exact hO
    clear hK K
    try simp only [Act.put, List.setIfInBounds_toArray, List.set_cons_zero, List.set_cons_succ]
    refine at_op 20 rfl (by kernel_rfl) (by rfl) (fun K hK => ?_)
    go_simp
    refine (rmat_find (RA.out.keep hHeld.1.bel) ⟨fe, fi, fr, fd⟩).mono ?_
    rintro e wx ⟨rfl, hB⟩
    have hO := And.intro (hHeld.1.keep hB) (hHeld.2.trans (hB.mono hHeld.2.size))
    clear hB
    rw [ZF.out]
    refine hK.out _ _ ?_ (fun hHeld => ?_)
    · exact hO
    clear hK K
    try simp only [Act.put, List.setIfInBounds_toArray, List.set_cons_zero, List.set_cons_succ]
    refine take_op 21 rfl (by kernel_rfl) (by kernel_rfl) (by kernel_rfl) (fun _ _ _ h => h) (by rfl) (by (intro w hSw; (try dsimp only at hSw); go_simp; (try with_reducible rfl))) (by assumption) ?_
    simp only [Act.put, List.setIfInBounds_toArray, List.set_cons_zero, List.set_cons_succ]
    refine take_op 22 rfl (by kernel_rfl) (by kernel_rfl) (by kernel_rfl) (fun _ _ _ h => h) (by rfl) (by (intro w hSw; (try dsimp only at hSw); go_simp; (try with_reducible rfl))) (by assumption) ?_
    simp only [Act.put, List.setIfInBounds_toArray, List.set_cons_zero, List.set_cons_succ]
    refine take_op 23 rfl (by kernel_rfl) (by kernel_rfl) (by kernel_rfl) (fun _ _ _ h => h) (by rfl) (by (intro w hSw; (try dsimp only at hSw); go_simp; (try with_reducible rfl))) (by assumption) ?_
    simp only [Act.put, List.setIfInBounds_toArray, List.set_cons_zero, List.set_cons_succ]
    refine take_op 24 rfl (by kernel_rfl) (by kernel_rfl) (by kernel_rfl) (fun _ _ _ h => h) (by rfl) (by (intro wz hSw; (obtain ⟨g0, g1, g2, g3⟩ := boxF_c (hSw.1.all w5.heap.size (boxF (frameE a msg data).1) (by simp)).2); go_simp; (try with_reducible rfl))) (by assumption) ?_
    simp only [Act.put, List.setIfInBounds_toArray, List.set_cons_zero, List.set_cons_succ]
    refine take_op 25 rfl (by kernel_rfl) (by kernel_rfl) (by kernel_rfl) (fun _ _ _ h => h) (by rfl) (by (intro wz hSw; (obtain ⟨g0, g1, g2, g3⟩ := boxF_c (hSw.1.all w6.heap.size (boxF (frameE a msg data).1) (by simp)).2); go_simp; (try with_reducible rfl))) (by assumption) ?_
    simp only [Act.put, List.setIfInBounds_toArray, List.set_cons_zero, List.set_cons_succ]
    refine take_op 26 rfl (by kernel_rfl) (by kernel_rfl) (by kernel_rfl) (fun _ _ _ h => h) (by rfl) (by (intro w hSw; (try dsimp only at hSw); go_simp; (try with_reducible rfl))) (by assumption) ?_
    simp only [Act.put, List.setIfInBounds_toArray, List.set_cons_zero, List.set_cons_succ]
    refine take_op 27 rfl (by kernel_rfl) (by kernel_rfl) (by kernel_rfl) (fun _ _ _ h => h) (by rfl) (by (intro w hSw; (try dsimp only at hSw); go_simp; (try with_reducible rfl))) (by assumption) ?_
    simp only [Act.put, List.setIfInBounds_toArray, List.set_cons_zero, List.set_cons_succ]
    refine take_op 28 rfl (by kernel_rfl) (by kernel_rfl) (by kernel_rfl) (fun _ _ _ h => h) (by rfl) (by (intro w hSw; (try dsimp only at hSw); go_simp; (try with_reducible rfl))) (by assumption) ?_
    simp only [Act.put, List.setIfInBounds_toArray, List.set_cons_zero, List.set_cons_succ]
    refine take_op 29 rfl (by kernel_rfl) (by kernel_rfl) (by kernel_rfl) (fun _ _ _ h => h) (by rfl) (by (intro w hSw; (try dsimp only at hSw); go_simp; (try with_reducible rfl))) (by assumption) ?_
    simp only [Act.put, List.setIfInBounds_toArray, List.set_cons_zero, List.set_cons_succ]
    refine take_op 30 rfl (by kernel_rfl) (by kernel_rfl) (by kernel_rfl) (fun _ _ _ h => h) (by rfl) (by (intro w hSw; (try dsimp only at hSw); go_simp; (try with_reducible rfl))) (by assumption) ?_
    simp only [Act.put, List.setIfInBounds_toArray, List.set_cons_zero, List.set_cons_succ]
    refine take_op 31 rfl (by kernel_rfl) (by kernel_rfl) (by kernel_rfl) (fun _ _ _ h => h) (by rfl) (by (intro w hSw; (try dsimp only at hSw); go_simp; (try with_reducible rfl))) (by assumption) ?_
    simp only [Act.put, List.setIfInBounds_toArray, List.set_cons_zero, List.set_cons_succ]
    refine take_op 32 rfl (by kernel_rfl) (by kernel_rfl) (by kernel_rfl) (fun _ _ _ h => h) (by rfl) (by (intro w hSw; (try dsimp only at hSw); go_simp; (try with_reducible rfl))) (by assumption) ?_
    simp only [Act.put, List.setIfInBounds_toArray, List.set_cons_zero, List.set_cons_succ]
    refine take_op 33 rfl (by kernel_rfl) (by kernel_rfl) (by kernel_rfl) (fun _ _ _ h => h) (by rfl) (by (intro w hSw; (try dsimp only at hSw); go_simp; (try with_reducible rfl))) (by assumption) ?_
    simp only [Act.put, List.setIfInBounds_toArray, List.set_cons_zero, List.set_cons_succ]
    refine take_op 34 rfl (by kernel_rfl) (by kernel_rfl) (by kernel_rfl) (fun _ _ _ h => h) (by rfl) (by (intro wz hSw; (obtain ⟨c0, c1, c2, c3, c4, c5, c6, c7, c8, c9, c10⟩ := boxM_c (hSw.1.all w.heap.size (boxM a (.slice a1 a.masters.length p1) (.slice a2 a.msgs.length p2) (.slice a3 a.wins.length p3)) (by simp)).2); go_simp; (try with_reducible rfl))) (by assumption) ?_
    simp only [Act.put, List.setIfInBounds_toArray, List.set_cons_zero, List.set_cons_succ]
    refine take_op 35 rfl (by kernel_rfl) (by kernel_rfl) (by kernel_rfl) (fun _ _ _ h => h) (by rfl) (by (intro w hSw; (try dsimp only at hSw); go_simp; (try with_reducible rfl))) (by assumption) ?_
    simp only [Act.put, List.setIfInBounds_toArray, List.set_cons_zero, List.set_cons_succ]
    refine take_op 37 rfl (by kernel_rfl) (by kernel_rfl) (by kernel_rfl) (fun _ _ _ h => h) (by rfl) (by (intro wz hSw; (obtain ⟨c0, c1, c2, c3, c4, c5, c6, c7, c8, c9, c10⟩ := boxM_c (hSw.1.all w.heap.size (boxM a (.slice a1 a.masters.length p1) (.slice a2 a.msgs.length p2) (.slice a3 a.wins.length p3)) (by simp)).2); go_simp; (try with_reducible rfl))) (by assumption) ?_
    simp only [Act.put, List.setIfInBounds_toArray, List.set_cons_zero, List.set_cons_succ]
    refine take_op 38 rfl (by kernel_rfl) (by kernel_rfl) (by kernel_rfl) (fun _ _ _ h => h) (by rfl) (by (intro w hSw; (try dsimp only at hSw); go_simp; (try with_reducible rfl))) (by assumption) ?_
    simp only [Act.put, List.setIfInBounds_toArray, List.set_cons_zero, List.set_cons_succ]
    refine at_op 36 rfl (by kernel_rfl) (by rfl) (fun K hK => ?_)
    go_simp
    refine (mat_rank (RA.out.keep hHeld.1.bel) who).mono ?_
    rintro e wx ⟨rfl, hB⟩
    have hO := And.intro (hHeld.1.keep hB) (hHeld.2.trans (hB.mono hHeld.2.size))
    clear hB
    rw [ZR.out]
    refine hK.out _ _ ?_ (fun hHeld => ?_)
    · exact hO
    clear hK K
    try simp only [Act.put, List.setIfInBounds_toArray, List.set_cons_zero, List.set_cons_succ]
    refine at_op 39 rfl (by kernel_rfl) (by rfl) (fun K hK => ?_)
    go_simp
    refine (rmat_rank (RA.out.keep hHeld.1.bel) who).mono ?_
    rintro e wx ⟨rfl, hB⟩
    have hO := And.intro (hHeld.1.keep hB) (hHeld.2.trans (hB.mono hHeld.2.size))
    clear hB
    rw [ZR.out]
    refine hK.out _ _ ?_ (fun hHeld => ?_)
    · exact hO
    clear hK K
    try simp only [Act.put, List.setIfInBounds_toArray, List.set_cons_zero, List.set_cons_succ]
    refine take_op 40 rfl (by kernel_rfl) (by kernel_rfl) (by kernel_rfl) (fun _ _ _ h => h) (by rfl) (by (intro w hSw; (try dsimp only at hSw); go_simp; (try with_reducible rfl))) (by assumption) ?_
    simp only [Act.put, List.setIfInBounds_toArray, List.set_cons_zero, List.set_cons_succ]
    refine take_op 41 rfl (by kernel_rfl) (by kernel_rfl) (by kernel_rfl) (fun _ _ _ h => h) (by rfl) (by (intro w hSw; (try dsimp only at hSw); go_simp; (try with_reducible rfl))) (by assumption) ?_
    simp only [Act.put, List.setIfInBounds_toArray, List.set_cons_zero, List.set_cons_succ]
    refine take_op 42 rfl (by kernel_rfl) (by kernel_rfl) (by kernel_rfl) (fun _ _ _ h => h) (by rfl) (by (intro w hSw; (try dsimp only at hSw); go_simp; (try with_reducible rfl))) (by assumption) ?_
    simp only [Act.put, List.setIfInBounds_toArray, List.set_cons_zero, List.set_cons_succ]
    refine take_op 43 rfl (by kernel_rfl) (by kernel_rfl) (by kernel_rfl) (fun _ _ _ h => h) (by rfl) (by (intro wz hSw; (obtain ⟨c0, c1, c2, c3, c4, c5, c6, c7, c8, c9, c10⟩ := boxM_c (hSw.1.all w.heap.size (boxM a (.slice a1 a.masters.length p1) (.slice a2 a.msgs.length p2) (.slice a3 a.wins.length p3)) (by simp)).2); go_simp; (try with_reducible rfl))) (by assumption) ?_
    simp only [Act.put, List.setIfInBounds_toArray, List.set_cons_zero, List.set_cons_succ]
    refine take_op 44 rfl (by kernel_rfl) (by kernel_rfl) (by kernel_rfl) (fun _ _ _ h => h) (by rfl) (by (intro wz hSw; (obtain ⟨c0, c1, c2, c3, c4, c5, c6, c7, c8, c9, c10⟩ := boxM_c hSw.1.get0); go_simp; (try with_reducible rfl))) (by assumption) ?_
    simp only [Act.put, List.setIfInBounds_toArray, List.set_cons_zero, List.set_cons_succ]
    refine at_op 45 rfl (by kernel_rfl) (by rfl) (fun K hK => ?_)
    go_simp
    refine (rmat_same (RA.out.keep hHeld.1.bel) (RC.out.keep hHeld.2)).mono ?_
    rintro e wx ⟨rfl, hB⟩
    have hO := And.intro (hHeld.1.keep hB) (hHeld.2.trans (hB.mono hHeld.2.size))
    clear hB
    rw [LS.out]
    refine hK.out _ _ ?_ (fun hHeld => ?_)
    · exact hO
    clear hK K
    try simp only [Act.put, List.setIfInBounds_toArray, List.set_cons_zero, List.set_cons_succ]
    refine take_op 46 rfl (by kernel_rfl) (by kernel_rfl) (by kernel_rfl) (fun _ _ _ h => h) (by rfl) (by (intro w hSw; (try dsimp only at hSw); go_simp; (try with_reducible rfl))) (by assumption) ?_
    simp only [Act.put, List.setIfInBounds_toArray, List.set_cons_zero, List.set_cons_succ]
    refine take_op 47 rfl (by kernel_rfl) (by kernel_rfl) (by kernel_rfl) (fun _ _ _ h => h) (by rfl) (by (intro w hSw; (try dsimp only at hSw); go_simp; (try with_reducible rfl))) (by assumption) ?_
    simp only [Act.put, List.setIfInBounds_toArray, List.set_cons_zero, List.set_cons_succ]
    refine take_op 48 rfl (by kernel_rfl) (by kernel_rfl) (by kernel_rfl) (fun _ _ _ h => h) (by rfl) (by (intro wz hSw; (obtain ⟨c0, c1, c2, c3, c4, c5, c6, c7, c8, c9, c10⟩ := boxM_c (hSw.1.all w.heap.size (boxM a (.slice a1 a.masters.length p1) (.slice a2 a.msgs.length p2) (.slice a3 a.wins.length p3)) (by simp)).2); go_simp; (try with_reducible rfl))) (by assumption) ?_
    simp only [Act.put, List.setIfInBounds_toArray, List.set_cons_zero, List.set_cons_succ]
    refine take_op 49 rfl (by kernel_rfl) (by kernel_rfl) (by kernel_rfl) (fun _ _ _ h => h) (by rfl) (by (intro wz hSw; (obtain ⟨c0, c1, c2, c3, c4, c5, c6, c7, c8, c9, c10⟩ := boxM_c hSw.1.get0); go_simp; (try with_reducible rfl))) (by assumption) ?_
    simp only [Act.put, List.setIfInBounds_toArray, List.set_cons_zero, List.set_cons_succ]
    refine at_op 50 rfl (by kernel_rfl) (by rfl) (fun K hK => ?_)
    go_simp
    refine (mat_same (RA.out.keep hHeld.1.bel) (RC.out.keep hHeld.2)).mono ?_
    rintro e wx ⟨rfl, hB⟩
    have hO := And.intro (hHeld.1.keep hB) (hHeld.2.trans (hB.mono hHeld.2.size))
    clear hB
    rw [LS.out]
    refine hK.out _ _ ?_ (fun hHeld => ?_)
    · exact hO
    clear hK K
    try simp only [Act.put, List.setIfInBounds_toArray, List.set_cons_zero, List.set_cons_succ]
    refine take_op 51 rfl (by kernel_rfl) (by kernel_rfl) (by kernel_rfl) (fun _ _ _ h => h) (by rfl) (by (intro w hSw; (try dsimp only at hSw); go_simp; (try with_reducible rfl))) (by assumption) ?_
    simp only [Act.put, List.setIfInBounds_toArray, List.set_cons_zero, List.set_cons_succ]
    refine take_op 52 rfl (by kernel_rfl) (by kernel_rfl) (by kernel_rfl) (fun _ _ _ h => h) (by rfl) (by (intro w hSw; (try dsimp only at hSw); go_simp; (try with_reducible rfl))) (by assumption) ?_
    simp only [Act.put, List.setIfInBounds_toArray, List.set_cons_zero, List.set_cons_succ]
    refine wpAnyH_done (by kernel_rfl) ?_ _
    go_wp2
    go_ret
    exact ⟨rfl, hHeld.1.bel⟩
  · rw [decide_eq_false hf]
    go_wp2
    all_goals first | (exfalso; omega) | (go_ret; exact ⟨rfl, hO.bel⟩)
set_option maxRecDepth 100000 in
theorem MatrixTells_walk {H : Type} {enc : TypeId × Value → H} {base : Nat} {d0 d1 d2 : DataW H} {p0 p1 p2 : List MemPlace} (v0 v1 v2 : Value) (a3 a4 : Int) (a5 : ByteArray) (w3 : (Lit.int .i64 a3).wf = true) (w4 : (Lit.int .i64 a4).wf = true) (w5 : a5.size ≤ maxLen) (W : World)
    (hv0 : Value.okWide Try.prog W .any base 27 v0) (h0 : DataW.Trod enc Try.prog W 0 (fun _ => true) true 27 v0 d0 p0)
    (hv1 : Value.okWide Try.prog W .any base 27 v1) (h1 : DataW.Trod enc Try.prog W 0 (fun _ => true) true 27 v1 d1 p1)
    (hv2 : Value.okWide Try.prog W .any base 30 v2) (h2 : DataW.Trod enc Try.prog W 0 (fun _ => true) true 30 v2 d2 p2) :
    Holds 6 #[v0, v1, v2, .int .i64 a3, .int .i64 a4, .string a5] W := by
  obtain ⟨a, s1, s2, s3, rfl, ra⟩ := open_mat hv0 h0
  obtain ⟨b, t1, t2, t3, rfl, rb⟩ := open_mat hv1 h1
  obtain ⟨f, rfl, _, _⟩ := open_frame hv2 h2
  exact MatrixTells_core a b s1 s2 s3 t1 t2 t3 f a3 a4 a5 w3 w4 w5 W ra rb

set_option maxRecDepth 100000 in
theorem MatrixTells_lifted (os : Os) (started : os.Started) (H : Type) (enc : TypeId × Value → H) :
    ReturnsInHanded {} Try.checked os 6 .any (Rows.matrixTellsSpec.pre6 enc Try.prog Try.f6 [] false) (Rows.matrixTellsSpec.post enc Try.prog Try.f6 false true false false) := by
  refine law_lifted (n := 6) os started H enc (by kernel_rfl) Try.func6 rfl rfl (hts_of (by kernel_rfl)) rfl (fun ds h => match ds, h with | [_, _, _, _, _, _], _ => rfl)
    (ChangeSpec.witness6 (enc := enc) (C := Try.checked) false ⟨#[], #[.agg #[.int .i64 0, .int .i64 0, .int .i64 0, .int .i64 0, .int .i64 0, .int .i64 0, .int .i64 0, .int .u32 0, .slice none 0 0, .slice none 0 0, .slice none 0 0], .agg #[.int .i64 0, .int .i64 0, .int .i64 0, .int .i64 0, .int .i64 0, .int .i64 0, .int .i64 0, .int .u32 0, .slice none 0 0, .slice none 0 0, .slice none 0 0], .agg #[.bool false, .int .u32 0, .bool false, .string ⟨#[]⟩], .int .i64 0, .int .i64 0, .string ⟨#[]⟩], []⟩ 8 (by kernel_rfl) (by kernel_rfl) (by kernel_rfl) (by kernel_rfl)) ?_
  intro W base args ds p hval hA
  rw [Try.params6] at hA hval
  obtain ⟨v0, vs0, d0, ds0, p0, q0, hargs, rfl, rfl, h0, r0⟩ := trodAll_cons hA
  obtain ⟨v1, vs1, d1, ds1, p1, q1, rfl, rfl, rfl, h1, r1⟩ := trodAll_cons r0
  obtain ⟨v2, vs2, d2, ds2, p2, q2, rfl, rfl, rfl, h2, r2⟩ := trodAll_cons r1
  obtain ⟨v3, vs3, d3, ds3, p3, q3, rfl, rfl, rfl, h3, r3⟩ := trodAll_cons r2
  obtain ⟨v4, vs4, d4, ds4, p4, q4, rfl, rfl, rfl, h4, r4⟩ := trodAll_cons r3
  obtain ⟨v5, vs5, d5, ds5, p5, q5, rfl, rfl, rfl, h5, r5⟩ := trodAll_cons r4
  obtain ⟨rfl, rfl, rfl⟩ := trodAll_nil r5
  obtain rfl : args = #[v0, v1, v2, v3, v4, v5] := by cases args; simp_all
  obtain ⟨a3, rfl, rfl, rfl, w3⟩ := open_int Try.underlying3 (hval 3 _ v3 rfl rfl) h3
  obtain ⟨a4, rfl, rfl, rfl, w4⟩ := open_int Try.underlying3 (hval 4 _ v4 rfl rfl) h4
  obtain ⟨a5, rfl, rfl, rfl, w5⟩ := Go.ChangeMaps.open_string Try.underlying9 (hval 5 _ v5 rfl rfl) h5
  exact MatrixTells_walk v0 v1 v2 a3 a4 a5 w3 w4 w5 W (hval 0 _ v0 rfl rfl) h0 (hval 1 _ v1 rfl rfl) h1 (hval 2 _ v2 rfl rfl) h2

theorem MatrixTells_over : Rows.matrixTellsRow.holds Try.pinned (OpenSpec.ofChange Rows.matrixTellsSpec) :=
  OpenClaim.holds_of_wide 6 Try.f6 rfl rfl rfl rfl rfl rfl rfl ⟨rfl, rfl, rfl, rfl, rfl⟩ rfl rfl rfl rfl rfl (by kernel_rfl) Try.func6 (by kernel_rfl)
    (of_decide_eq_true (by kernel_rfl)) (by unfold Func.isWrapper; first | (rw [if_pos (by decide +kernel)]; kernel_rfl) | (rw [if_neg (by decide +kernel)]; exact ⟨rfl, rfl⟩))
    (fun os started H enc _ => MatrixTells_lifted os started H enc)
theorem MatrixTells_holds : Rows.MatrixTellsSaid := MatrixTells_over
#print axioms MatrixTells_holds
end Go.Proofs.Ythkhlcigegbpfaa
