/- What the known matrix of chapter 12 is. -/
import Derived.Test.YthkhlcigegbpfaaMatFrame
import Derived.Test.YthkhlcigegbpfaaMatCopy2
import Derived.Test.YthkhlcigegbpfaaOwn2
namespace Go.Proofs.Ythkhlcigegbpfaa
set_option linter.unusedVariables false
set_option linter.unusedSimpArgs false
open Go.ChangeShapes Go.WideShapes Go.ChangeAt Go.RowKit Go.Deep

def leastM : Mat := ⟨1, 2, 1, 200, 1, 16, 0, 0, [0], [⟨9, 1, false⟩], []⟩
theorem leastM_ok : leastM.Ok := by
  refine ⟨by decide, by decide, by decide, by decide, by decide, by decide, by decide, by decide, ?_, ?_, ?_⟩
  · intro x hx; simp [leastM] at hx; subst hx; decide
  · intro x hx; simp [leastM] at hx; subst hx; exact ⟨by decide, by decide⟩
  · intro x hx; simp [leastM] at hx
theorem results_least {w : World} {b : Nat} {m : Mat} {s1 s2 s3 : Value} {tmps : Array Value} (ht : tmps.getD 0 undef = .pointer (some ⟨b, 0, none⟩)) (h : w.heap[b]? = some (boxM m s1 s2 s3)) :
    (results Try.f41 tmps).run Try.prog w = .ok (matV m s1 s2 s3) w := by
  obtain ⟨r0, r1, r2, r3, r4, r5, r6, r7, r8, r9, r10⟩ := boxM_c h
  have ht' : tmps[0]?.getD undef = .pointer (some ⟨b, 0, none⟩) := by simpa using ht
  simp [results, Try.results41, go_sem, ht', r0, r1, r2, r3, r4, r5, r6, r7, r8, r9, r10, matV]
set_option maxRecDepth 100000 in
theorem least_any (w : World) : Calls Try.prog 41 #[] w fun e w' => ∃ a1 n1 c1 a2 n2 c2, e = .returned (matV leastM (.slice a1 n1 c1) (.slice a2 n2 c2) (.slice none 0 0)) ∧ Below w.heap.size w w' ∧ NewM w.heap.size w' leastM (.slice a1 n1 c1) (.slice a2 n2 c2) (.slice none 0 0) := by
  go_enter Try.func41, Try.ntmps41
  go_wp2
  have h0 : (((w.alloc (boxM leastM (.slice (some ⟨w.heap.size + 1, 0, none⟩) 1 1) (.slice (some ⟨w.heap.size + 1 + 1, 0, none⟩) 1 1) (.slice none 0 0))).alloc (.cells #[.int .i64 0] 3)).alloc (.cells #[.int .u32 9, .int .i64 1, .bool false] 53)).heap[w.heap.size]? = some (boxM leastM (.slice (some ⟨w.heap.size + 1, 0, none⟩) 1 1) (.slice (some ⟨w.heap.size + 1 + 1, 0, none⟩) 1 1) (.slice none 0 0)) := by
    rw [old_blk _ _ _ (by simp; omega), old_blk _ _ _ (by simp), new_blk]
  have h1 : (((w.alloc (boxM leastM (.slice (some ⟨w.heap.size + 1, 0, none⟩) 1 1) (.slice (some ⟨w.heap.size + 1 + 1, 0, none⟩) 1 1) (.slice none 0 0))).alloc (.cells #[.int .i64 0] 3)).alloc (.cells #[.int .u32 9, .int .i64 1, .bool false] 53)).heap[w.heap.size + 1]? = some (.cells #[.int .i64 0] 3 (0, 0)) := by
    rw [old_blk _ _ _ (by simp), new_blk2]
  have h2 : (((w.alloc (boxM leastM (.slice (some ⟨w.heap.size + 1, 0, none⟩) 1 1) (.slice (some ⟨w.heap.size + 1 + 1, 0, none⟩) 1 1) (.slice none 0 0))).alloc (.cells #[.int .i64 0] 3)).alloc (.cells #[.int .u32 9, .int .i64 1, .bool false] 53)).heap[w.heap.size + 1 + 1]? = some (.cells #[.int .u32 9, .int .i64 1, .bool false] 53 (0, 0)) := by
    have := new_blk2 (w.alloc (boxM leastM (.slice (some ⟨w.heap.size + 1, 0, none⟩) 1 1) (.slice (some ⟨w.heap.size + 1 + 1, 0, none⟩) 1 1) (.slice none 0 0))) (.cells #[.int .i64 0] 3) (.cells #[.int .u32 9, .int .i64 1, .bool false] 53)
    simpa using this
  exact bodyPost_ret (results_least rfl h0) rfl ⟨_, _, _, _, _, _, rfl, (((Below.refl _ _).alloc (Nat.le_refl _) _).alloc (by simp) _).alloc (by simp; omega) _,
    .inr ⟨_, rfl, by omega, h1⟩, .inr ⟨_, rfl, by omega, h2⟩, .inl ⟨rfl, rfl⟩⟩
theorem few_any {w : World} {m : Mat} {s1 s2 s3 : Value} (h : RdM w m s1 s2 s3) : Calls Try.prog 29 #[matV m s1 s2 s3] w fun e w' => e = .returned (.bool (decide (m.masters.length ≤ 10 ∧ m.msgs.length ≤ 20 ∧ m.wins.length ≤ 25))) ∧ Below w.heap.size w w' := by
  have hO := (Own.nil_ (Below.refl w.heap.size w) (Nat.le_refl _)).alloc (boxM m s1 s2 s3)
  obtain ⟨a1, p1, e1, r1⟩ := h.r1.shape
  obtain ⟨a2, p2, e2, r2⟩ := h.r2.shape
  obtain ⟨a3, p3, e3, r3⟩ := h.r3.shape
  subst e1 e2 e3
  have l1 := r1.len.2
  have l2 := r2.len.2
  have l3 := r3.len.2
  unfold maxLen at l1 l2 l3
  clear r1 r2 r3 h
  obtain ⟨c0, c1, c2, c3, c4, c5, c6, c7, c8, c9, c10⟩ := boxM_c hO.get0
  clear c0 c1 c2 c3 c4 c5 c6 c7
  unfold matV
  go_enter Try.func29, Try.ntmps29
  go_wp2
  all_goals first
    | (exfalso; omega)
    | (go_ret; exact ⟨ret_bool (by simp; omega), hO.bel⟩)
    | (go_ret; exact ⟨ret_bool (by rw [Bool.eq_iff_iff]; simp; omega), hO.bel⟩)
theorem held30 : Try.prog.stoodInHeld 30 = false := by kernel_rfl
theorem guard30 : Try.prog.eqGuardType Try.prog.depth 30 = false := by kernel_rfl
def leastC : Mat := ⟨1, 2, 1, 200, 1, 16, 0, 0, [1], [⟨9, 1, false⟩], []⟩
theorem leastC_ok : leastC.Ok := by
  refine ⟨by decide, by decide, by decide, by decide, by decide, by decide, by decide, by decide, ?_, ?_, ?_⟩
  · intro x hx; simp [leastC] at hx; subst hx; decide
  · intro x hx; simp [leastC] at hx; subst hx; exact ⟨by decide, by decide⟩
  · intro x hx; simp [leastC] at hx
def zeroM : Mat := ⟨0, 0, 0, 0, 0, 0, 0, 0, [], [], []⟩
theorem zeroM_rd (w : World) : RdM w zeroM (.slice none 0 0) (.slice none 0 0) (.slice none 0 0) := by
  refine ⟨⟨by decide, by decide, by decide, by decide, by decide, by decide, by decide, by decide, ?_, ?_, ?_⟩, ?_, ?_, ?_⟩
  · intro x hx; simp [zeroM] at hx
  · intro x hx; simp [zeroM] at hx
  · intro x hx; simp [zeroM] at hx
  all_goals exact ⟨none, 0, rfl, by simp [zeroM], by simp [maxLen], fun i x hi => by simp [zeroM] at hi⟩
theorem NewL.of_cons {α : Type} {C : α → List Value} {t : TypeId} {base : Nat} {w : World} {v : Value} {x : α} {l : List α} (h : NewL C t base w v (x :: l)) :
    ∃ g, v = .slice (some ⟨g, 0, none⟩) (l.length + 1) (l.length + 1) ∧ base ≤ g ∧ w.heap[g]? = some (.cells ((x :: l).flatMap C).toArray t (0, 0)) := by
  rcases h with ⟨_, h⟩ | ⟨g, e, hb, hg⟩
  · simp at h
  · exact ⟨g, e, hb, hg⟩
set_option maxRecDepth 100000 in
set_option maxHeartbeats 4000000 in
theorem known12 (w : World) : Calls Try.prog 28 #[] w fun e w' => e = .returned (.bool true) ∧ Below w.heap.size w w' := by
  have hp := held30
  have hg := guard30
  go_enter Try.func28, Try.ntmps28
  go_wp2_with fail
  refine (least_any _).mono ?_
  rintro e w1 ⟨a1, n1, c1, a2, n2, c2, rfl, hB0, hN⟩
  obtain ⟨g1, e1, hg1, hk1⟩ := hN.n1.of_cons
  obtain ⟨g2, e2, hg2, hk2⟩ := hN.n2.of_cons
  simp only [Value.slice.injEq] at e1 e2
  obtain ⟨rfl, rfl, rfl⟩ := e1
  obtain ⟨rfl, rfl, rfl⟩ := e2
  have RM := Lib.hid (hN.rd ⟨by decide, by decide, by decide⟩ leastM_ok)
  have HK1 := Lib.hid hk1
  have hl1 := lt_of_heap hk1
  clear hN hk1 hk2
  have hO := (Own.nil_ (Below.refl w1.heap.size w1) (Nat.le_refl _)).alloc (boxM leastM (.slice (some ⟨g1, 0, none⟩) (List.length ([] : List Int) + 1) (List.length ([] : List Int) + 1)) (.slice (some ⟨g2, 0, none⟩) (List.length ([] : List Msg) + 1) (List.length ([] : List Msg) + 1)) (.slice none 0 0))
  simp only [List.length_nil, Nat.zero_add] at hO RM
  have LM := Lib.hid (show isB leastM = true by decide)
  have LZ := Lib.hid (show isB zeroM = false by decide)
  have LS := Lib.hid (show sameB leastM leastM = true by decide)
  have LC := Lib.hid (show sameB leastM leastC = false by decide)
  have LF := Lib.hid (show findI leastM ⟨false, 9, false, ⟨#[97]⟩⟩ = 0 by decide)
  have LR := Lib.hid (show rankI leastM 0 = 0 ∧ rankI leastM 1 = -1 by decide)
  simp only [matV, leastM]
  go_wp2_with fail
  refine (own_below hO (mat_frame (RM.out.keep hO.bel) 0 (by decide) ⟨#[97]⟩ (by decide))).mono ?_
  rintro e w2 ⟨rfl, hO⟩
  rw [show frameE leastM 0 ⟨#[97]⟩ = (⟨false, 9, false, ⟨#[97]⟩⟩, true) by rfl]
  simp only [frV]
  obtain ⟨c0, c1, c2, c3, c4, c5, c6, c7, c8, c9, c10⟩ := boxM_c hO.get0
  simp only [leastM] at c0 c1 c2 c3 c4 c5 c6 c7
  have hml := lt_of_heap hO.get0
  go_wp2_with fail
  replace hO := hO.alloc (boxF ⟨false, 9, false, ⟨#[97]⟩⟩)
  refine (own_below hO (mat_frame (RM.out.keep hO.bel) 1 (by decide) ⟨#[]⟩ (by decide))).mono ?_
  rintro e w3 ⟨rfl, hO⟩
  rw [show frameE leastM 1 ⟨#[]⟩ = (⟨false, 0, false, ⟨#[]⟩⟩, false) by rfl]
  simp only [frV]
  clear c0 c1 c2 c3 c4 c5 c6 c7 c8 c9 c10 hml
  obtain ⟨c0, c1, c2, c3, c4, c5, c6, c7, c8, c9, c10⟩ := boxM_c hO.get1
  simp only [leastM] at c0 c1 c2 c3 c4 c5 c6 c7
  have hml := lt_of_heap hO.get1
  have hfl := lt_of_heap hO.get0
  go_wp2_with fail
  replace hO := hO.alloc_ (boxF ⟨false, 0, false, ⟨#[]⟩⟩)
  refine (mat_copy (RM.out.keep hO.bel) ⟨by decide, by decide, by decide⟩).mono ?_
  rintro e w4 ⟨v1, v2, v3, rfl, hB, hN⟩
  obtain ⟨gc, e1, hgc, hkc⟩ := hN.n1.of_cons
  obtain ⟨gd, e2, hgd, hkd⟩ := hN.n2.of_cons
  obtain ⟨a3, e3⟩ : ∃ a3, v3 = .slice a3 0 0 := by
    rcases hN.n3 with ⟨h, _⟩ | ⟨g, h, _, _⟩
    · exact ⟨_, h⟩
    · exact ⟨_, h⟩
  simp only [List.length_nil, Nat.zero_add] at e1 e2
  subst e1 e2 e3
  have hcd : gd ≠ gc := by
    rintro rfl
    rw [hkc] at hkd
    simp [msgC, intC] at hkd
  have hkc' : w4.heap[gc]? = some (.cells #[.int .i64 0] 3 (0, 0)) := hkc
  have hkd' : w4.heap[gd]? = some (.cells #[.int .u32 9, .int .i64 1, .bool false] 53 (0, 0)) := hkd
  have hfr := hO.fresh hgd
  have hOc := hO.add hB hgc hkc'
  have hO' := hOc.more hkd' hfr.1 (by
    intro b u hm
    rcases List.mem_cons.1 hm with e | hm
    · simp only [Prod.mk.injEq] at e
      rw [e.1]
      exact fun h => hcd h.symm
    · exact hfr.2 b u hm)
  clear hN hkc hkd hkc' hkd' hfr hOc hO hcd
  have x0 := cell_of hO'.get1 0
  have xf := free_of hO'.get1 0
  have xl := lt_of_heap hO'.get1
  simp at x0
  clear c0 c1 c2 c3 c4 c5 c6 c7 c8 c9 c10 hml hfl
  simp only [matV, leastM]
  go_wp2_with fail
  have hO := (hO'.upd1 (Upd.setCell 0 (.int .i64 1) (Upd.refl hO'.get1))).alloc (boxM leastC (.slice (some ⟨gc, 0, none⟩) 1 1) (.slice (some ⟨gd, 0, none⟩) 1 1) (.slice a3 0 0))
  have hss : ∀ (a : Addr) (v : Value), (w4.setCell a v).heap.size = w4.heap.size := fun a v => by simp [World.setCell]
  rw [hss] at hO
  clear hss
  have hO2 : Own w1.heap.size w1 [(w4.heap.size, boxM leastC (.slice (some ⟨gc, 0, none⟩) 1 1) (.slice (some ⟨gd, 0, none⟩) 1 1) (.slice a3 0 0)), (gd, .cells #[.int .u32 9, .int .i64 1, .bool false] 53 (0, 0)), (gc, .cells #[.int .i64 1] 3 (0, 0)), (w2.heap.size, boxF ⟨false, 9, false, ⟨#[97]⟩⟩), (w1.heap.size, boxM leastM (.slice (some ⟨g1, 0, none⟩) 1 1) (.slice (some ⟨g2, 0, none⟩) 1 1) (.slice none 0 0))] _ := hO
  clear hO hO'
  have hB1 : ∀ w', Own w1.heap.size w1 [(w4.heap.size, boxM leastC (.slice (some ⟨gc, 0, none⟩) 1 1) (.slice (some ⟨gd, 0, none⟩) 1 1) (.slice a3 0 0)), (gd, .cells #[.int .u32 9, .int .i64 1, .bool false] 53 (0, 0)), (gc, .cells #[.int .i64 1] 3 (0, 0)), (w2.heap.size, boxF ⟨false, 9, false, ⟨#[97]⟩⟩), (w1.heap.size, boxM leastM (.slice (some ⟨g1, 0, none⟩) 1 1) (.slice (some ⟨g2, 0, none⟩) 1 1) (.slice none 0 0))] w' → RdM w' leastC (.slice (some ⟨gc, 0, none⟩) 1 1) (.slice (some ⟨gd, 0, none⟩) 1 1) (.slice a3 0 0) := by
    intro w' h
    refine ⟨leastC_ok, NewL.rd (t := 3) (base := 0) intC_len (by decide) (.inr ⟨gc, rfl, Nat.zero_le _, h.get2⟩), NewL.rd (t := 53) (base := 0) msgC_len (by decide) (.inr ⟨gd, rfl, Nat.zero_le _, h.get1⟩), ⟨a3, 0, rfl, by simp [leastC], by simp [maxLen], fun i x hi => by simp [leastC] at hi⟩⟩
  have HB1 := Lib.hid hB1
  clear hB1
  clear x0 xf xl
  refine wp_region_held_drew (S := fun w' => Own w1.heap.size w1 [(w4.heap.size, boxM leastC (.slice (some ⟨gc, 0, none⟩) 1 1) (.slice (some ⟨gd, 0, none⟩) 1 1) (.slice a3 0 0)), (gd, .cells #[.int .u32 9, .int .i64 1, .bool false] 53 (0, 0)), (gc, .cells #[.int .i64 1] 3 (0, 0)), (w2.heap.size, boxF ⟨false, 9, false, ⟨#[97]⟩⟩), (w1.heap.size, boxM leastM (.slice (some ⟨g1, 0, none⟩) 1 1) (.slice (some ⟨g2, 0, none⟩) 1 1) (.slice none 0 0))] w') (by kernel_rfl) hO2.drew (fun hHeld => ?_)
  clear hO2
  refine take_op 0 rfl (by kernel_rfl) (by kernel_rfl) (by kernel_rfl) (fun _ _ _ h => h) (by rfl) (by (intro wz hSw; (obtain ⟨c0, c1, c2, c3, c4, c5, c6, c7, c8, c9, c10⟩ := boxM_c (hSw.all w1.heap.size (boxM leastM (.slice (some ⟨g1, 0, none⟩) 1 1) (.slice (some ⟨g2, 0, none⟩) 1 1) (.slice none 0 0)) (by simp)).2; simp only [leastM] at c0 c1 c2 c3 c4 c5 c6 c7); go_simp; (try with_reducible rfl))) (by assumption) ?_
  simp only [Act.put, List.setIfInBounds_toArray, List.set_cons_zero, List.set_cons_succ]
  refine at_op 1 rfl (by kernel_rfl) (by rfl) (fun K hK => ?_)
  go_simp
  refine (own_below hHeld (mat_is (RM.out.keep hHeld.bel))).mono ?_
  rintro e w5 ⟨rfl, hO⟩
  simp only [LM.out]
  refine hK.out _ _ ?_ (fun hHeld => ?_)
  · exact hO
  clear hK K
  try simp only [Act.put, List.setIfInBounds_toArray, List.set_cons_zero, List.set_cons_succ]
  refine take_op 2 rfl (by kernel_rfl) (by kernel_rfl) (by kernel_rfl) (fun _ _ _ h => h) (by rfl) (by (intro w hSw; (try dsimp only at hSw); go_simp; (try with_reducible rfl))) (by assumption) ?_
  simp only [Act.put, List.setIfInBounds_toArray, List.set_cons_zero, List.set_cons_succ]
  refine take_op 3 rfl (by kernel_rfl) (by kernel_rfl) (by kernel_rfl) (fun _ _ _ h => h) (by rfl) (by (intro w hSw; (try dsimp only at hSw); go_simp; (try with_reducible rfl))) (by assumption) ?_
  simp only [Act.put, List.setIfInBounds_toArray, List.set_cons_zero, List.set_cons_succ]
  refine at_op 4 rfl (by kernel_rfl) (by rfl) (fun K hK => ?_)
  go_simp
  refine (own_below hHeld (mat_is (zeroM_rd _))).mono ?_
  rintro e wx ⟨rfl, hO⟩
  simp only [LZ.out]
  refine hK.out _ _ ?_ (fun hHeld => ?_)
  · exact hO
  clear hK K
  try simp only [Act.put, List.setIfInBounds_toArray, List.set_cons_zero, List.set_cons_succ]
  refine take_op 5 rfl (by kernel_rfl) (by kernel_rfl) (by kernel_rfl) (fun _ _ _ h => h) (by rfl) (by (intro w hSw; (try dsimp only at hSw); go_simp; (try with_reducible rfl))) (by assumption) ?_
  simp only [Act.put, List.setIfInBounds_toArray, List.set_cons_zero, List.set_cons_succ]
  refine take_op 6 rfl (by kernel_rfl) (by kernel_rfl) (by kernel_rfl) (fun _ _ _ h => h) (by rfl) (by (intro w hSw; (try dsimp only at hSw); go_simp; (try with_reducible rfl))) (by assumption) ?_
  simp only [Act.put, List.setIfInBounds_toArray, List.set_cons_zero, List.set_cons_succ]
  refine take_op 7 rfl (by kernel_rfl) (by kernel_rfl) (by kernel_rfl) (fun _ _ _ h => h) (by rfl) (by (intro w hSw; (try dsimp only at hSw); go_simp; (try with_reducible rfl))) (by assumption) ?_
  simp only [Act.put, List.setIfInBounds_toArray, List.set_cons_zero, List.set_cons_succ]
  refine take_op 8 rfl (by kernel_rfl) (by kernel_rfl) (by kernel_rfl) (fun _ _ _ h => h) (by rfl) (by (intro wz hSw; (obtain ⟨c0, c1, c2, c3, c4, c5, c6, c7, c8, c9, c10⟩ := boxM_c (hSw.all w1.heap.size (boxM leastM (.slice (some ⟨g1, 0, none⟩) 1 1) (.slice (some ⟨g2, 0, none⟩) 1 1) (.slice none 0 0)) (by simp)).2; simp only [leastM] at c0 c1 c2 c3 c4 c5 c6 c7); go_simp; (try with_reducible rfl))) (by assumption) ?_
  simp only [Act.put, List.setIfInBounds_toArray, List.set_cons_zero, List.set_cons_succ]
  refine at_op 9 rfl (by kernel_rfl) (by rfl) (fun K hK => ?_)
  go_simp
  refine (least_any _).mono ?_
  rintro e wx ⟨b1, m1, k1, b2, m2, k2, rfl, hB, hN⟩
  have hO := hHeld.keep hB
  have RN := Lib.hid (hN.rd ⟨by decide, by decide, by decide⟩ leastM_ok)
  clear hB hN
  simp only [matV, leastM]
  refine hK.out _ _ ?_ (fun hHeld => ?_)
  · exact hO
  clear hK K
  try simp only [Act.put, List.setIfInBounds_toArray, List.set_cons_zero, List.set_cons_succ]
  refine at_op 10 rfl (by kernel_rfl) (by rfl) (fun K hK => ?_)
  go_simp
  refine (own_below hO (mat_same (RM.out.keep hO.bel) RN.out)).mono ?_
  rintro e wy ⟨rfl, hO⟩
  simp only [LS.out]
  refine hK.out _ _ ?_ (fun hHeld => ?_)
  · exact hO
  clear hK K
  try simp only [Act.put, List.setIfInBounds_toArray, List.set_cons_zero, List.set_cons_succ]
  refine take_op 11 rfl (by kernel_rfl) (by kernel_rfl) (by kernel_rfl) (fun _ _ _ h => h) (by rfl) (by (intro w hSw; (try dsimp only at hSw); go_simp; (try with_reducible rfl))) (by assumption) ?_
  simp only [Act.put, List.setIfInBounds_toArray, List.set_cons_zero, List.set_cons_succ]
  refine take_op 12 rfl (by kernel_rfl) (by kernel_rfl) (by kernel_rfl) (fun _ _ _ h => h) (by rfl) (by (intro w hSw; (try dsimp only at hSw); go_simp; (try with_reducible rfl))) (by assumption) ?_
  simp only [Act.put, List.setIfInBounds_toArray, List.set_cons_zero, List.set_cons_succ]
  refine take_op 13 rfl (by kernel_rfl) (by kernel_rfl) (by kernel_rfl) (fun _ _ _ h => h) (by rfl) (by (intro wz hSw; (obtain ⟨c0, c1, c2, c3, c4, c5, c6, c7, c8, c9, c10⟩ := boxM_c (hSw.all w1.heap.size (boxM leastM (.slice (some ⟨g1, 0, none⟩) 1 1) (.slice (some ⟨g2, 0, none⟩) 1 1) (.slice none 0 0)) (by simp)).2; simp only [leastM] at c0 c1 c2 c3 c4 c5 c6 c7); go_simp; (try with_reducible rfl))) (by assumption) ?_
  simp only [Act.put, List.setIfInBounds_toArray, List.set_cons_zero, List.set_cons_succ]
  refine take_op 14 rfl (by kernel_rfl) (by kernel_rfl) (by kernel_rfl) (fun _ _ _ h => h) (by rfl) (by (intro wz hSw; (obtain ⟨c0, c1, c2, c3, c4, c5, c6, c7, c8, c9, c10⟩ := boxM_c hSw.get0; simp only [leastC] at c0 c1 c2 c3 c4 c5 c6 c7); go_simp; (try with_reducible rfl))) (by assumption) ?_
  simp only [Act.put, List.setIfInBounds_toArray, List.set_cons_zero, List.set_cons_succ]
  refine at_op 15 rfl (by kernel_rfl) (by rfl) (fun K hK => ?_)
  go_simp
  refine (own_below hHeld (mat_same (RM.out.keep hHeld.bel) (HB1.out _ hHeld))).mono ?_
  rintro e wx ⟨rfl, hO⟩
  simp only [LC.out]
  refine hK.out _ _ ?_ (fun hHeld => ?_)
  · exact hO
  clear hK K
  try simp only [Act.put, List.setIfInBounds_toArray, List.set_cons_zero, List.set_cons_succ]
  refine take_op 16 rfl (by kernel_rfl) (by kernel_rfl) (by kernel_rfl) (fun _ _ _ h => h) (by rfl) (by (intro w hSw; (try dsimp only at hSw); go_simp; (try with_reducible rfl))) (by assumption) ?_
  simp only [Act.put, List.setIfInBounds_toArray, List.set_cons_zero, List.set_cons_succ]
  refine take_op 17 rfl (by kernel_rfl) (by kernel_rfl) (by kernel_rfl) (fun _ _ _ h => h) (by rfl) (by (intro w hSw; (try dsimp only at hSw); go_simp; (try with_reducible rfl))) (by assumption) ?_
  simp only [Act.put, List.setIfInBounds_toArray, List.set_cons_zero, List.set_cons_succ]
  refine take_op 18 rfl (by kernel_rfl) (by kernel_rfl) (by kernel_rfl) (fun _ _ _ h => h) (by rfl) (by (intro w hSw; (try dsimp only at hSw); go_simp; (try with_reducible rfl))) (by assumption) ?_
  simp only [Act.put, List.setIfInBounds_toArray, List.set_cons_zero, List.set_cons_succ]
  refine take_op 19 rfl (by kernel_rfl) (by kernel_rfl) (by kernel_rfl) (fun _ _ _ h => h) (by rfl) (by (intro w hSw; (try dsimp only at hSw); go_simp; (try with_reducible rfl))) (by assumption) ?_
  simp only [Act.put, List.setIfInBounds_toArray, List.set_cons_zero, List.set_cons_succ]
  refine take_op 20 rfl (by kernel_rfl) (by kernel_rfl) (by kernel_rfl) (fun _ _ _ h => h) (by rfl) (by (intro wz hSw; (obtain ⟨c0, c1, c2, c3, c4, c5, c6, c7, c8, c9, c10⟩ := boxM_c (hSw.all w1.heap.size (boxM leastM (.slice (some ⟨g1, 0, none⟩) 1 1) (.slice (some ⟨g2, 0, none⟩) 1 1) (.slice none 0 0)) (by simp)).2; simp only [leastM] at c0 c1 c2 c3 c4 c5 c6 c7); go_simp; (try with_reducible rfl))) (by assumption) ?_
  simp only [Act.put, List.setIfInBounds_toArray, List.set_cons_zero, List.set_cons_succ]
  refine take_op 21 rfl (by kernel_rfl) (by kernel_rfl) (by kernel_rfl) (fun _ _ _ h => h) (by rfl) (by (intro w hSw; (try dsimp only at hSw); go_simp; (try with_reducible rfl))) (by assumption) ?_
  simp only [Act.put, List.setIfInBounds_toArray, List.set_cons_zero, List.set_cons_succ]
  refine take_op 22 rfl (by kernel_rfl) (by kernel_rfl) (by kernel_rfl) (fun _ _ _ h => h) (by rfl) (by (intro wz hSw; (have c0 := (hSw.bel.cell (p := ⟨g1, 0, none⟩) hl1).trans ((cell_of HK1.out 0).trans (show _ = some (Value.int .i64 0) from rfl))); go_simp; (try with_reducible rfl))) (by assumption) ?_
  simp only [Act.put, List.setIfInBounds_toArray, List.set_cons_zero, List.set_cons_succ]
  refine take_op 23 rfl (by kernel_rfl) (by kernel_rfl) (by kernel_rfl) (fun _ _ _ h => h) (by rfl) (by (intro w hSw; (try dsimp only at hSw); go_simp; (try with_reducible rfl))) (by assumption) ?_
  simp only [Act.put, List.setIfInBounds_toArray, List.set_cons_zero, List.set_cons_succ]
  refine take_op 24 rfl (by kernel_rfl) (by kernel_rfl) (by kernel_rfl) (fun _ _ _ h => h) (by rfl) (by (intro w hSw; (try dsimp only at hSw); go_simp; (try with_reducible rfl))) (by assumption) ?_
  simp only [Act.put, List.setIfInBounds_toArray, List.set_cons_zero, List.set_cons_succ]
  refine take_op 25 rfl (by kernel_rfl) (by kernel_rfl) (by kernel_rfl) (fun _ _ _ h => h) (by rfl) (by (intro w hSw; (try dsimp only at hSw); go_simp; (try with_reducible rfl))) (by assumption) ?_
  simp only [Act.put, List.setIfInBounds_toArray, List.set_cons_zero, List.set_cons_succ]
  refine take_op 26 rfl (by kernel_rfl) (by kernel_rfl) (by kernel_rfl) (fun _ _ _ h => h) (by rfl) (by (intro w hSw; (try dsimp only at hSw); go_simp; (try with_reducible rfl))) (by assumption) ?_
  simp only [Act.put, List.setIfInBounds_toArray, List.set_cons_zero, List.set_cons_succ]
  refine take_op 27 rfl (by kernel_rfl) (by kernel_rfl) (by kernel_rfl) (fun _ _ _ h => h) (by rfl) (by (intro w hSw; (try dsimp only at hSw); go_simp; (try with_reducible rfl))) (by assumption) ?_
  simp only [Act.put, List.setIfInBounds_toArray, List.set_cons_zero, List.set_cons_succ]
  refine take_op 28 rfl (by kernel_rfl) (by kernel_rfl) (by kernel_rfl) (fun _ _ _ h => h) (by rfl) (by (intro w hSw; (try dsimp only at hSw); go_simp; (try with_reducible rfl))) (by assumption) ?_
  simp only [Act.put, List.setIfInBounds_toArray, List.set_cons_zero, List.set_cons_succ]
  refine take_op 29 rfl (by kernel_rfl) (by kernel_rfl) (by kernel_rfl) (fun _ _ _ h => h) (by rfl) (by (intro wz hSw; (obtain ⟨c0, c1, c2, c3⟩ := boxF_c (hSw.all w2.heap.size (boxF ⟨false, 9, false, ⟨#[97]⟩⟩) (by simp)).2; simp only at c0 c1 c2 c3); go_simp; (try with_reducible rfl))) (by assumption) ?_
  simp only [Act.put, List.setIfInBounds_toArray, List.set_cons_zero, List.set_cons_succ]
  refine take_op 30 rfl (by kernel_rfl) (by kernel_rfl) (by kernel_rfl) (fun _ _ _ h => h) (by rfl) (by (intro w hSw; (try dsimp only at hSw); go_simp; (try with_reducible rfl))) (by assumption) ?_
  simp only [Act.put, List.setIfInBounds_toArray, List.set_cons_zero, List.set_cons_succ]
  refine take_op 31 rfl (by kernel_rfl) (by kernel_rfl) (by kernel_rfl) (fun _ _ _ h => h) (by rfl) (by (intro w hSw; (try dsimp only at hSw); go_simp; (try with_reducible rfl))) (by assumption) ?_
  simp only [Act.put, List.setIfInBounds_toArray, List.set_cons_zero, List.set_cons_succ]
  refine take_op 32 rfl (by kernel_rfl) (by kernel_rfl) (by kernel_rfl) (fun _ _ _ h => h) (by rfl) (by (intro w hSw; (try dsimp only at hSw); go_simp; (try with_reducible rfl))) (by assumption) ?_
  simp only [Act.put, List.setIfInBounds_toArray, List.set_cons_zero, List.set_cons_succ]
  refine take_op 33 rfl (by kernel_rfl) (by kernel_rfl) (by kernel_rfl) (fun _ _ _ h => h) (by rfl) (by (intro w hSw; (try dsimp only at hSw); go_simp; (try with_reducible rfl))) (by assumption) ?_
  simp only [Act.put, List.setIfInBounds_toArray, List.set_cons_zero, List.set_cons_succ]
  refine take_op 34 rfl (by kernel_rfl) (by kernel_rfl) (by kernel_rfl) (fun _ _ _ h => h) (by rfl) (by (intro w hSw; (try dsimp only at hSw); go_simp; (try with_reducible rfl))) (by assumption) ?_
  simp only [Act.put, List.setIfInBounds_toArray, List.set_cons_zero, List.set_cons_succ]
  refine take_op 35 rfl (by kernel_rfl) (by kernel_rfl) (by kernel_rfl) (fun _ _ _ h => h) (by rfl) (by (intro w hSw; (try dsimp only at hSw); go_simp; (try with_reducible rfl))) (by assumption) ?_
  simp only [Act.put, List.setIfInBounds_toArray, List.set_cons_zero, List.set_cons_succ]
  refine take_op 36 rfl (by kernel_rfl) (by kernel_rfl) (by kernel_rfl) (fun _ _ _ h => h) (by rfl) (by (intro w hSw; (try dsimp only at hSw); go_simp; (try with_reducible rfl))) (by assumption) ?_
  simp only [Act.put, List.setIfInBounds_toArray, List.set_cons_zero, List.set_cons_succ]
  refine take_op 37 rfl (by kernel_rfl) (by kernel_rfl) (by kernel_rfl) (fun _ _ _ h => h) (by rfl) (by (intro w hSw; (try dsimp only at hSw); go_simp; (try with_reducible rfl))) (by assumption) ?_
  simp only [Act.put, List.setIfInBounds_toArray, List.set_cons_zero, List.set_cons_succ]
  refine take_op 38 rfl (by kernel_rfl) (by kernel_rfl) (by kernel_rfl) (fun _ _ _ h => h) (by rfl) (by (intro wz hSw; (obtain ⟨c0, c1, c2, c3, c4, c5, c6, c7, c8, c9, c10⟩ := boxM_c (hSw.all w1.heap.size (boxM leastM (.slice (some ⟨g1, 0, none⟩) 1 1) (.slice (some ⟨g2, 0, none⟩) 1 1) (.slice none 0 0)) (by simp)).2; simp only [leastM] at c0 c1 c2 c3 c4 c5 c6 c7); go_simp; (try with_reducible rfl))) (by assumption) ?_
  simp only [Act.put, List.setIfInBounds_toArray, List.set_cons_zero, List.set_cons_succ]
  refine take_op 39 rfl (by kernel_rfl) (by kernel_rfl) (by kernel_rfl) (fun _ _ _ h => h) (by rfl) (by (intro wz hSw; (obtain ⟨c0, c1, c2, c3⟩ := boxF_c (hSw.all w2.heap.size (boxF ⟨false, 9, false, ⟨#[97]⟩⟩) (by simp)).2; simp only at c0 c1 c2 c3); go_simp; (try with_reducible rfl))) (by assumption) ?_
  simp only [Act.put, List.setIfInBounds_toArray, List.set_cons_zero, List.set_cons_succ]
  refine at_op 40 rfl (by kernel_rfl) (by rfl) (fun K hK => ?_)
  go_simp
  refine (own_below hHeld (mat_find (RM.out.keep hHeld.bel) ⟨false, 9, false, ⟨#[97]⟩⟩)).mono ?_
  rintro e wx ⟨rfl, hO⟩
  simp only [LF.out]
  refine hK.out _ _ ?_ (fun hHeld => ?_)
  · exact hO
  clear hK K
  try simp only [Act.put, List.setIfInBounds_toArray, List.set_cons_zero, List.set_cons_succ]
  refine take_op 41 rfl (by kernel_rfl) (by kernel_rfl) (by kernel_rfl) (fun _ _ _ h => h) (by rfl) (by (intro w hSw; (try dsimp only at hSw); go_simp; (try with_reducible rfl))) (by assumption) ?_
  simp only [Act.put, List.setIfInBounds_toArray, List.set_cons_zero, List.set_cons_succ]
  refine take_op 42 rfl (by kernel_rfl) (by kernel_rfl) (by kernel_rfl) (fun _ _ _ h => h) (by rfl) (by (intro w hSw; (try dsimp only at hSw); go_simp; (try with_reducible rfl))) (by assumption) ?_
  simp only [Act.put, List.setIfInBounds_toArray, List.set_cons_zero, List.set_cons_succ]
  refine take_op 43 rfl (by kernel_rfl) (by kernel_rfl) (by kernel_rfl) (fun _ _ _ h => h) (by rfl) (by (intro w hSw; (try dsimp only at hSw); go_simp; (try with_reducible rfl))) (by assumption) ?_
  simp only [Act.put, List.setIfInBounds_toArray, List.set_cons_zero, List.set_cons_succ]
  refine take_op 44 rfl (by kernel_rfl) (by kernel_rfl) (by kernel_rfl) (fun _ _ _ h => h) (by rfl) (by (intro wz hSw; (obtain ⟨c0, c1, c2, c3, c4, c5, c6, c7, c8, c9, c10⟩ := boxM_c (hSw.all w1.heap.size (boxM leastM (.slice (some ⟨g1, 0, none⟩) 1 1) (.slice (some ⟨g2, 0, none⟩) 1 1) (.slice none 0 0)) (by simp)).2; simp only [leastM] at c0 c1 c2 c3 c4 c5 c6 c7); go_simp; (try with_reducible rfl))) (by assumption) ?_
  simp only [Act.put, List.setIfInBounds_toArray, List.set_cons_zero, List.set_cons_succ]
  refine at_op 45 rfl (by kernel_rfl) (by rfl) (fun K hK => ?_)
  go_simp
  refine (own_below hHeld (mat_rank (RM.out.keep hHeld.bel) 0)).mono ?_
  rintro e wx ⟨rfl, hO⟩
  simp only [LR.out.1]
  refine hK.out _ _ ?_ (fun hHeld => ?_)
  · exact hO
  clear hK K
  try simp only [Act.put, List.setIfInBounds_toArray, List.set_cons_zero, List.set_cons_succ]
  refine take_op 46 rfl (by kernel_rfl) (by kernel_rfl) (by kernel_rfl) (fun _ _ _ h => h) (by rfl) (by (intro w hSw; (try dsimp only at hSw); go_simp; (try with_reducible rfl))) (by assumption) ?_
  simp only [Act.put, List.setIfInBounds_toArray, List.set_cons_zero, List.set_cons_succ]
  refine take_op 47 rfl (by kernel_rfl) (by kernel_rfl) (by kernel_rfl) (fun _ _ _ h => h) (by rfl) (by (intro w hSw; (try dsimp only at hSw); go_simp; (try with_reducible rfl))) (by assumption) ?_
  simp only [Act.put, List.setIfInBounds_toArray, List.set_cons_zero, List.set_cons_succ]
  refine take_op 48 rfl (by kernel_rfl) (by kernel_rfl) (by kernel_rfl) (fun _ _ _ h => h) (by rfl) (by (intro w hSw; (try dsimp only at hSw); go_simp; (try with_reducible rfl))) (by assumption) ?_
  simp only [Act.put, List.setIfInBounds_toArray, List.set_cons_zero, List.set_cons_succ]
  refine take_op 49 rfl (by kernel_rfl) (by kernel_rfl) (by kernel_rfl) (fun _ _ _ h => h) (by rfl) (by (intro wz hSw; (obtain ⟨c0, c1, c2, c3, c4, c5, c6, c7, c8, c9, c10⟩ := boxM_c (hSw.all w1.heap.size (boxM leastM (.slice (some ⟨g1, 0, none⟩) 1 1) (.slice (some ⟨g2, 0, none⟩) 1 1) (.slice none 0 0)) (by simp)).2; simp only [leastM] at c0 c1 c2 c3 c4 c5 c6 c7); go_simp; (try with_reducible rfl))) (by assumption) ?_
  simp only [Act.put, List.setIfInBounds_toArray, List.set_cons_zero, List.set_cons_succ]
  refine at_op 50 rfl (by kernel_rfl) (by rfl) (fun K hK => ?_)
  go_simp
  refine (own_below hHeld (mat_rank (RM.out.keep hHeld.bel) 1)).mono ?_
  rintro e wx ⟨rfl, hO⟩
  simp only [LR.out.2]
  refine hK.out _ _ ?_ (fun hHeld => ?_)
  · exact hO
  clear hK K
  try simp only [Act.put, List.setIfInBounds_toArray, List.set_cons_zero, List.set_cons_succ]
  refine take_op 51 rfl (by kernel_rfl) (by kernel_rfl) (by kernel_rfl) (fun _ _ _ h => h) (by rfl) (by (intro w hSw; (try dsimp only at hSw); go_simp; (try with_reducible rfl))) (by assumption) ?_
  simp only [Act.put, List.setIfInBounds_toArray, List.set_cons_zero, List.set_cons_succ]
  refine take_op 52 rfl (by kernel_rfl) (by kernel_rfl) (by kernel_rfl) (fun _ _ _ h => h) (by rfl) (by (intro w hSw; (try dsimp only at hSw); go_simp; (try with_reducible rfl))) (by assumption) ?_
  simp only [Act.put, List.setIfInBounds_toArray, List.set_cons_zero, List.set_cons_succ]
  refine take_op 53 rfl (by kernel_rfl) (by kernel_rfl) (by kernel_rfl) (fun _ _ _ h => h) (by rfl) (by (intro w hSw; (try dsimp only at hSw); go_simp; (try with_reducible rfl))) (by assumption) ?_
  simp only [Act.put, List.setIfInBounds_toArray, List.set_cons_zero, List.set_cons_succ]
  refine at_op 54 rfl (by kernel_rfl) (by rfl) (fun K hK => ?_)
  go_simp
  refine (own_same hHeld (mat_comes 1 2 3 (by decide) (by decide) (by decide) _)).mono ?_
  rintro e wx ⟨rfl, hO⟩
  simp only [show comesB 1 2 3 = true by decide]
  refine hK.out _ _ ?_ (fun hHeld => ?_)
  · exact hO
  clear hK K
  try simp only [Act.put, List.setIfInBounds_toArray, List.set_cons_zero, List.set_cons_succ]
  refine take_op 55 rfl (by kernel_rfl) (by kernel_rfl) (by kernel_rfl) (fun _ _ _ h => h) (by rfl) (by (intro w hSw; (try dsimp only at hSw); go_simp; (try with_reducible rfl))) (by assumption) ?_
  simp only [Act.put, List.setIfInBounds_toArray, List.set_cons_zero, List.set_cons_succ]
  refine take_op 56 rfl (by kernel_rfl) (by kernel_rfl) (by kernel_rfl) (fun _ _ _ h => h) (by rfl) (by (intro w hSw; (try dsimp only at hSw); go_simp; (try with_reducible rfl))) (by assumption) ?_
  simp only [Act.put, List.setIfInBounds_toArray, List.set_cons_zero, List.set_cons_succ]
  refine at_op 57 rfl (by kernel_rfl) (by rfl) (fun K hK => ?_)
  go_simp
  refine (own_same hHeld (mat_comes 1 2 2 (by decide) (by decide) (by decide) _)).mono ?_
  rintro e wx ⟨rfl, hO⟩
  simp only [show comesB 1 2 2 = false by decide]
  refine hK.out _ _ ?_ (fun hHeld => ?_)
  · exact hO
  clear hK K
  try simp only [Act.put, List.setIfInBounds_toArray, List.set_cons_zero, List.set_cons_succ]
  refine take_op 58 rfl (by kernel_rfl) (by kernel_rfl) (by kernel_rfl) (fun _ _ _ h => h) (by rfl) (by (intro w hSw; (try dsimp only at hSw); go_simp; (try with_reducible rfl))) (by assumption) ?_
  simp only [Act.put, List.setIfInBounds_toArray, List.set_cons_zero, List.set_cons_succ]
  refine take_op 59 rfl (by kernel_rfl) (by kernel_rfl) (by kernel_rfl) (fun _ _ _ h => h) (by rfl) (by (intro w hSw; (try dsimp only at hSw); go_simp; (try with_reducible rfl))) (by assumption) ?_
  simp only [Act.put, List.setIfInBounds_toArray, List.set_cons_zero, List.set_cons_succ]
  refine take_op 60 rfl (by kernel_rfl) (by kernel_rfl) (by kernel_rfl) (fun _ _ _ h => h) (by rfl) (by (intro w hSw; (try dsimp only at hSw); go_simp; (try with_reducible rfl))) (by assumption) ?_
  simp only [Act.put, List.setIfInBounds_toArray, List.set_cons_zero, List.set_cons_succ]
  refine wpAnyH_done (by kernel_rfl) ?_ _
  go_wp2
  go_ret
  exact ⟨rfl, hB0.trans (hHeld.bel.mono hB0.size)⟩
end Go.Proofs.Ythkhlcigegbpfaa
